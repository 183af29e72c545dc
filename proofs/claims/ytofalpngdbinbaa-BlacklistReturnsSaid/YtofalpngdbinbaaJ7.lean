/- Parts put together: W, Ba, Bb, Bc, Bd, Be, Bf, Bg, Bh, Bi. -/
import Derived.Test.YtofalpngdbinbaaJ4
import Derived.Test.YtofalpngdbinbaaPrim
set_option linter.unusedSimpArgs false
set_option linter.unusedVariables false
/- Rules whose conditions simp can have shown by omega; lists of records as cells. -/
namespace Go.PM
open Go

theorem wrap_in {x : Int} (h1 : -9223372036854775808 ≤ x) (h2 : x ≤ 9223372036854775807) : IntKind.i64.wrap x = x := IntWalk.i64_in x ⟨by omega, by omega⟩
theorem dlt_t {a b : Int} (h : a < b) : decide (a < b) = true := decide_eq_true h
theorem dlt_f {a b : Int} (h : b ≤ a) : decide (a < b) = false := decide_eq_false (by omega)
theorem dle_t {a b : Int} (h : a ≤ b) : decide (a ≤ b) = true := decide_eq_true h
theorem dle_f {a b : Int} (h : b < a) : decide (a ≤ b) = false := decide_eq_false (by omega)
theorem dgt_t {a b : Int} (h : b < a) : decide (a > b) = true := decide_eq_true h
theorem dgt_f {a b : Int} (h : a ≤ b) : decide (a > b) = false := decide_eq_false (by omega)
theorem dge_t {a b : Int} (h : b ≤ a) : decide (a ≥ b) = true := decide_eq_true h
theorem dge_f {a b : Int} (h : a < b) : decide (a ≥ b) = false := decide_eq_false (by omega)
theorem ibeq_t {a b : Int} (h : a = b) : (a == b) = true := beq_iff_eq.2 h
theorem ibeq_f {a b : Int} (h : a ≠ b) : (a == b) = false := beq_eq_false_iff_ne.2 h
theorem ibne_t {a b : Int} (h : a ≠ b) : (a != b) = true := bne_iff_ne.2 h
theorem ibne_f {a b : Int} (h : a = b) : (a != b) = false := by subst h; simp

/-- Records as cells. -/
def fl {A : Type} (e : A → List C) (l : List A) : List C := l.flatMap e
section
variable {A : Type} {e : A → List C} {m : Nat}
@[simp] theorem fl_nil : fl e [] = [] := rfl
theorem fl_cons (x : A) (l : List A) : fl e (x :: l) = e x ++ fl e l := by simp [fl]
theorem fl_append (l l' : List A) : fl e (l ++ l') = fl e l ++ fl e l' := by simp [fl]
theorem fl_snoc (l : List A) (x : A) : fl e l ++ e x = fl e (l ++ [x]) := by simp [fl]
theorem fl_length (h : ∀ x, (e x).length = m) : ∀ l : List A, (fl e l).length = l.length * m
  | [] => by simp [fl]
  | x :: l => by rw [fl_cons, List.length_append, h, fl_length h l, List.length_cons, Nat.succ_mul]; omega
theorem fl_drop (h : ∀ x, (e x).length = m) : ∀ (k : Nat) (l : List A), (fl e l).drop (k * m) = fl e (l.drop k)
  | 0, l => by simp
  | k + 1, [] => by simp [fl]
  | k + 1, x :: l => by
    rw [fl_cons, Nat.succ_mul, Nat.add_comm, List.drop_append]
    rw [show (e x).drop (m + k * m) = [] from List.drop_eq_nil_of_le (by rw [h]; omega), h, Nat.add_sub_cancel_left, List.nil_append, fl_drop h k l]
    rfl
theorem fl_take (h : ∀ x, (e x).length = m) : ∀ (k : Nat) (l : List A), (fl e l).take (k * m) = fl e (l.take k)
  | 0, l => by simp
  | k + 1, [] => by simp [fl]
  | k + 1, x :: l => by
    rw [fl_cons, Nat.succ_mul, Nat.add_comm, List.take_append]
    rw [List.take_of_length_le (by rw [h]; omega), h, Nat.add_sub_cancel_left, fl_take h k l, List.take_succ_cons, fl_cons]
theorem fl_at (h : ∀ x, (e x).length = m) {k : Nat} {l : List A} (hk : k < l.length) : (fl e l).drop (k * m) = e l[k] ++ fl e (l.drop (k + 1)) := by
  rw [fl_drop h, List.drop_eq_getElem_cons hk, fl_cons]
theorem fl_div (hm : 0 < m) (h : ∀ x, (e x).length = m) (l : List A) : (fl e l).length / m = l.length := by rw [fl_length h, Nat.mul_div_cancel _ hm]
end

/-- The first that has a property, or none has it. -/
theorem first_or_none (P : Nat → Prop) [DecidablePred P] (n : Nat) : (∀ j, j < n → ¬ P j) ∨ ∃ k, k < n ∧ P k ∧ ∀ j, j < k → ¬ P j := by
  induction n with
  | zero => left; intro j hj; omega
  | succ n ih =>
    rcases ih with ih | ⟨k, h1, h2, h3⟩
    · by_cases h : P n
      · exact .inr ⟨n, by omega, h, ih⟩
      · left; intro j hj; by_cases e : j = n
        · subst e; exact h
        · exact ih j (by omega)
    · exact .inr ⟨k, by omega, h2, h3⟩
theorem iter_runx {A : Type} {body : A → Option (Nat × A)} {x : A} {fu : Nat} (f : Nat → A) (e : Nat) (z : A) (k : Nat) (hx : x = f 0) (h : ∀ j, j < k → body (f j) = some (0, f (j + 1))) (he : body (f k) = some (e + 1, z)) (hf : k < fu) : iter body fu x = some (e, z) := by
  rw [hx]; exact iter_run f e z k 0 fu (fun j _ hj => h j (by omega)) (by rw [Nat.zero_add]; exact he) hf
theorem iter_measx {A : Type} {body : A → Option (Nat × A)} {x : A} {fu : Nat} (J : A → Prop) (m : A → Nat) (e : Nat) (z : A) (hx : J x) (hm : m x < fu) (h : ∀ y, J y → (∃ y', body y = some (0, y') ∧ J y' ∧ m y' < m y) ∨ body y = some (e + 1, z)) : iter body fu x = some (e, z) := by
  obtain ⟨e', z', h1, h2, h3⟩ := iter_meas (body := body) J m (fun e' z' => e' = e ∧ z' = z) (fun y hy => (h y hy).imp id fun hh => ⟨e, z, hh, rfl, rfl⟩) fu x hx hm
  rw [h1, h2, h3]
theorem iter_s {A : Type} (body : A → Option (Nat × A)) (n : Nat) (x : A) : iter body (n + 1) x = (body x).bind fun p => natD p.1 (iter body n p.2) fun m => some (m, p.2) := by
  simp only [iter]
  congr 1
end Go.PM
/- Numbers that are read from a list; counts and histories as cells. -/
namespace Go.Proofs.Ytofalpngdbinbaa
open Go Go.PM

/-- A reader: what it reads, how many are read. -/
def srcC (l : List Int) (i : Nat) : List C := [C.sl l.length (ints l), C.v (.int .i64 (i : Nat))]
abbrev srcO (l : List Int) (i : Nat) : PM.Obj := .ob ty_synoptickeep_Src 0 (srcC l i)

theorem sp_Mod (fu d : Nat) (a n : Int) (hn : 1 ≤ n ∧ n ≤ 4611686018427387904) : ∃ v, cl fu (d + 1) fn_synoptickeep_Mod [I a, I n] [] = some ⟨I v, [], none⟩ ∧ 0 ≤ v ∧ v < n := by
  rw [eq_synoptickeep_Mod]
  have h1 : -n < Int.tmod a n := by have := Int.lt_tmod_of_pos a (show 0 < n by omega); omega
  have h2 : Int.tmod a n < n := Int.tmod_lt_of_pos a (by omega)
  simp only [show decide (n < 1) = false from decide_eq_false (by omega), cf, show (n == 0) = false by rw [beq_eq_false_iff_ne]; omega, Bool.not_false, need_true]
  by_cases h : Int.tmod a n < 0
  · rw [decide_eq_true h, IntWalk.i64_in _ ⟨by omega, by omega⟩]
    exact ⟨_, rfl, by omega, by omega⟩
  · rw [decide_eq_false h]
    exact ⟨_, rfl, by omega, h2⟩

theorem sp_New (fu d : Nat) (l : List Int) : cl fu (d + 1) fn_synoptickeep_New [V.c (C.sl l.length (ints l))] [] = some ⟨V.ptr 1000000 0, [srcO (l.take 2000) 0], none⟩ := by
  rw [eq_synoptickeep_New]
  unfold srcO srcC
  by_cases h : 2000 < l.length
  · simp only [if_pos (show (2000 : Int) < (l.length : Int) by omega), decide_eq_true (show (0 : Int) ≤ 2000 by omega), decide_eq_true (show (2000 : Int) ≤ (l.length : Int) by omega), Bool.and_self, need_true, show (2000 : Int).toNat = 2000 from rfl, Nat.mul_one, ik_take, List.length_take, Nat.min_eq_left (Nat.le_of_lt h)]
    rfl
  · simp only [if_neg (show ¬ (2000 : Int) < (l.length : Int) by omega), decide_eq_true (show (0 : Int) ≤ (l.length : Int) by omega), decide_eq_true (Int.le_refl (l.length : Int)), Bool.and_self, need_true, Int.toNat_natCast, Nat.mul_one, ik_take, List.take_length, List.take_of_length_le (show l.length ≤ 2000 by omega)]
    rfl

theorem sp_Raw (fu d : Nat) (l : List Int) (i : Nat) (hl : l.length ≤ 2000) : ∃ (v : Int) (j : Nat), cl fu (d + 1) fn_synoptickeep_Src_Raw [V.ptr 1000000 0] [srcO l i] = some ⟨I v, [srcO l j], none⟩ := by
  unfold srcO srcC
  rw [eq_synoptickeep_Src_Raw]
  simp only [asSl_sl]
  by_cases h : i < l.length
  · rw [decide_eq_false (show ¬ (i : Int) ≥ (l.length : Int) by omega)]
    simp only [cf]
    rw [IntWalk.i64_in ((i : Int) + 1) ⟨by omega, by omega⟩, show (i : Int) + 1 - 1 = i by omega, IntWalk.i64_in (i : Int) ⟨by omega, by omega⟩]
    simp only [inR_nat h, need_true, Int.toNat_natCast, Nat.mul_one, unc_ik h, asI_int]
    exact ⟨l[i], i + 1, by simp⟩
  · rw [decide_eq_true (show (i : Int) ≥ (l.length : Int) by omega)]
    exact ⟨0, i, rfl⟩

theorem sp_N (fu d : Nat) (l : List Int) (i : Nat) (hl : l.length ≤ 2000) (n : Int) (hn : 1 ≤ n ∧ n ≤ 4611686018427387904) :
    ∃ (v : Int) (j : Nat), cl fu (d + 2) fn_synoptickeep_Src_N [V.ptr 1000000 0, I n] [srcO l i] = some ⟨I v, [srcO l j], none⟩ ∧ 0 ≤ v ∧ v < n := by
  obtain ⟨w, j, h1⟩ := sp_Raw fu d l i hl
  obtain ⟨v, h2, h3, h4⟩ := sp_Mod fu d w n hn
  refine ⟨v, j, ?_, h3, h4⟩
  unfold srcO srcC at h1 ⊢
  rw [eq_synoptickeep_Src_N, h1]
  simp only [obs, uncO_cons, rO_ob, beqN_self, Bool.and_self, need_true, List.length_cons, List.length_nil, Nat.zero_add, Nat.reduceAdd, unc_cons, asI_int, rC_c, h2]

theorem sp_Range (fu d : Nat) (l : List Int) (i : Nat) (hl : l.length ≤ 2000) (lo hi : Int) (h : lo ≤ hi) (hb : -2305843009213693952 ≤ lo ∧ hi ≤ 2305843009213693951) :
    ∃ (v : Int) (j : Nat), cl fu (d + 3) fn_synoptickeep_Src_Range [V.ptr 1000000 0, I lo, I hi] [srcO l i] = some ⟨I v, [srcO l j], none⟩ ∧ lo ≤ v ∧ v ≤ hi := by
  obtain ⟨v, j, h1, h2, h3⟩ := sp_N fu d l i hl (hi - lo + 1) ⟨by omega, by omega⟩
  refine ⟨lo + v, j, ?_, by omega, by omega⟩
  unfold srcO srcC at h1 ⊢
  rw [eq_synoptickeep_Src_Range, IntWalk.i64_in (hi - lo) ⟨by omega, by omega⟩, IntWalk.i64_in (hi - lo + 1) ⟨by omega, by omega⟩, h1]
  simp only [obs, uncO_cons, rO_ob, beqN_self, Bool.and_self, need_true, List.length_cons, List.length_nil, Nat.zero_add, Nat.reduceAdd, unc_cons, asI_int, rC_c]
  rw [IntWalk.i64_in (lo + v) ⟨by omega, by omega⟩]

theorem sp_Pick (fu d : Nat) (l : List Int) (i : Nat) (hl : l.length ≤ 2000) (q : List Int) (hq : 1 ≤ q.length ∧ q.length ≤ 1000000) :
    ∃ (v : Int) (j : Nat), cl fu (d + 3) fn_synoptickeep_Src_Pick [V.ptr 1000000 0, V.c (C.sl q.length (ints q))] [srcO l i] = some ⟨I v, [srcO l j], none⟩ ∧ v ∈ q := by
  obtain ⟨v, j, h1, h2, h3⟩ := sp_N fu d l i hl (q.length : Int) ⟨by omega, by omega⟩
  obtain ⟨k, rfl⟩ : ∃ k : Nat, v = k := ⟨v.toNat, by omega⟩
  have hk : k < q.length := by omega
  refine ⟨q[k], j, ?_, List.getElem_mem hk⟩
  unfold srcO srcC at h1 ⊢
  rw [eq_synoptickeep_Src_Pick, h1]
  simp only [obs, uncO_cons, rO_ob, beqN_self, Bool.and_self, need_true, List.length_cons, List.length_nil, Nat.zero_add, Nat.reduceAdd, unc_cons, asI_int, rC_c, inR_nat hk, Int.toNat_natCast, Nat.mul_one, unc_ik hk]

/-- A count. -/
structure Cnt where
  nm : ByteArray
  t : Int
  r : Int
def cc (c : Cnt) : List C := [C.v (.string c.nm), C.v (.int .i64 c.t), C.v (.int .i64 c.r)]
theorem cc_length (c : Cnt) : (cc c).length = 3 := rfl
def cyC (l : List Cnt) : C := .sl l.length (fl cc l)
def cycs (cy : List (List Cnt)) : List C := cy.map cyC
def sc (s : ByteArray) : List C := [C.v (.string s)]
theorem sc_length (s : ByteArray) : (sc s).length = 1 := rfl
theorem strs_fl (l : List ByteArray) : strs l = fl sc l := by
  induction l with
  | nil => rfl
  | cons a l ih => simp only [strs, List.map_cons, fl_cons, sc] at ih ⊢; rw [ih]; rfl

theorem asSl_nrm {R : Type} {c : C} {n : Nat} {cs : List C} (h : nrm c = .sl n cs) (k : Nat → List C → Option R) : asSl c k = k n cs := by
  cases c with
  | nl => simp only [nrm, C.sl.injEq] at h; obtain ⟨rfl, rfl⟩ := h; rfl
  | sl n' cs' => simp only [nrm, C.sl.injEq] at h; obtain ⟨rfl, rfl⟩ := h; rfl
  | _ => simp [nrm] at h
theorem iter_noYl_sl {n : Nat} {cs : List C} : noYl [V.c (.sl n cs)] = true := rfl

theorem pr_contains (fu d : Nat) (s : ByteArray) : cl fu (d + 1) fn_strings_ContainsFunc [V.c (.v (.string s)), V.c (.fn fn_group_Name_1 [])] [] = some ⟨B (hasRune oddRune s), [], none⟩ := by kernel_rfl
theorem pr_keys (fu d : Nat) (kt et : TypeId) (ka va : Option Nat) (es : List (List C × List C)) : cl fu (d + 1) fn_maps_Keys_map_string_api_Count_string_api_Count [V.c (.mp kt et ka va es)] [] = some ⟨V.c (.fn 62 [.bx (.mp kt et ka va es)]), [], none⟩ := by kernel_rfl
theorem pr_sorted (fu d : Nat) (kt et : TypeId) (va : Option Nat) (es : List (List C × List C)) (ks : List ByteArray) (h : unKeys es = some ks) (h2 : okKeys ks) :
    cl fu (d + 1) fn_slices_Sorted_string [V.c (.fn 62 [.bx (.mp kt et none va es)])] [] = some ⟨V.c (.sl ks.length (strs (sortB ks))), [], none⟩ := by
  have e : cl fu (d + 1) fn_slices_Sorted_string [V.c (.fn 62 [.bx (.mp kt et none va es)])] [] = (unKeys es).bind fun ks => need (Nat.beq 62 62 && decide (okKeys ks)) (some ⟨V.c (.sl ks.length (strs (sortB ks))), [], none⟩) := by kernel_rfl
  rw [e, h]
  simp [h2, need]

/-- A station's name. -/
def nameOk (s : ByteArray) : Prop := s.size = 5 ∧ hasRune oddRune s = false
theorem sp_Name (fu d : Nat) {s : ByteArray} (h : nameOk s) : cl fu (d + 2) fn_group_Name [V.c (.v (.string s))] [] = some ⟨B true, [], none⟩ := by
  rw [eq_group_Name, pr_contains, h.2]
  rw [h.1]; rfl

def ltS (a b : ByteArray) : Bool := Op.bytesLess a.toList b.toList
def asc (l : List ByteArray) : Prop := ∀ (j : Nat) (a b : ByteArray), l[j]? = some a → l[j + 1]? = some b → ltS a b = true
def cntOk (c : Cnt) : Prop := nameOk c.nm ∧ (0 ≤ c.t ∧ c.t ≤ 100000) ∧ (0 ≤ c.r ∧ c.r ≤ c.t)
def cycleOk (l : List Cnt) : Prop := l.length ≤ 150 ∧ (∀ c ∈ l, cntOk c) ∧ asc (l.map Cnt.nm)
def histOk (cy : List (List Cnt)) (nm : List ByteArray) : Prop := cy.length ≤ 12 ∧ (∀ l ∈ cy, cycleOk l) ∧ nm.length ≤ 150 ∧ (∀ s ∈ nm, nameOk s) ∧ asc nm

end Go.Proofs.Ytofalpngdbinbaa
/- Where no element of a list has a property; valid histories. -/
namespace Go.Proofs.Ytofalpngdbinbaa
open Go Go.PM

section
variable (fu d : Nat) (hf : 18446744073709551616 ≤ fu)
include hf
theorem no_sapi (k1 : Nat) (l : List Cnt) (hl : l.length ≤ 1000) (h : ∀ c ∈ l, cl fu d k1 [V.agg (cc c)] [] = some ⟨B false, [], none⟩) :
    cl fu (d + 2) fn_slices_ContainsFunc_sapi_Count_api_Count [V.c (.sl l.length (fl cc l)), V.c (.fn k1 [])] [] = some ⟨B false, [], none⟩ := by
  rw [eq_slices_ContainsFunc_sapi_Count_api_Count, eq_slices_IndexFunc_sapi_Count_api_Count]
  rw [iter_runx (fun j : Nat => ((0 : Int), ((j : Nat) : Int), ())) 0 (0, (l.length : Int), ()) l.length ?_ ?_ ?_ (by omega)]
  · rfl
  · rfl
  · intro j hj
    have hc := h l[j] (List.getElem_mem hj)
    simp only [cc] at hc
    simp (disch := omega) only [obs, rC_c, rA_agg, rT_tup, rP_ptr, rW_own, rS_sb, rF_sb, uncV_cons, uncO_cons, nilV_nil, rO_ob, rN_ob, unc_cons, asI_int, asB_bool, asS_string, asSl_sl, asSl_nl, asFn_fn, asP_cp, nrm_sl, nrm_nl, need_true, ct, cf, bd_eq, natD_zero, natD_succ, natD_one, noYl_v, noYl_sl, noYl_nl, noYl_cp, noYl_fn, Bool.and_true, Bool.true_and, Bool.and_self, beqN_self, Bool.not_true, Bool.not_false, Bool.and_false, Bool.false_and, Bool.or_false, Bool.false_or, Bool.or_true, Bool.true_or, wrap_in, dlt_t, dlt_f, dle_t, dle_f, dgt_t, dgt_f, dge_t, dge_f, ibeq_t, ibeq_f, ibne_t, ibne_f, inR_int, beqN_eq, bleN_le, Int.toNat_natCast, fl_at cc_length hj, cc, List.cons_append, hc]
    rfl
  · simp (disch := omega) only [obs, rC_c, rA_agg, rT_tup, rP_ptr, rW_own, rS_sb, rF_sb, uncV_cons, uncO_cons, nilV_nil, rO_ob, rN_ob, unc_cons, asI_int, asB_bool, asS_string, asSl_sl, asSl_nl, asFn_fn, asP_cp, nrm_sl, nrm_nl, need_true, ct, cf, bd_eq, natD_zero, natD_succ, natD_one, noYl_v, noYl_sl, noYl_nl, noYl_cp, noYl_fn, Bool.and_true, Bool.true_and, Bool.and_self, beqN_self, Bool.not_true, Bool.not_false, Bool.and_false, Bool.false_and, Bool.or_false, Bool.false_or, Bool.or_true, Bool.true_or, wrap_in, dlt_t, dlt_f, dle_t, dle_f, dgt_t, dgt_f, dge_t, dge_f, ibeq_t, ibeq_f, ibne_t, ibne_f, inR_int, beqN_eq, bleN_le]
theorem no_sapi1 (k1 : Nat) (x : C) (l : List Cnt) (hl : l.length ≤ 1000) (h : ∀ c ∈ l, cl fu d k1 [V.agg (cc c), V.c x] [] = some ⟨B false, [], none⟩) :
    cl fu (d + 2) fn_slices_ContainsFunc_sapi_Count_api_Count [V.c (.sl l.length (fl cc l)), V.c (.fn k1 [x])] [] = some ⟨B false, [], none⟩ := by
  rw [eq1_slices_ContainsFunc_sapi_Count_api_Count, eq1_slices_IndexFunc_sapi_Count_api_Count]
  rw [iter_runx (fun j : Nat => ((0 : Int), ((j : Nat) : Int), ())) 0 (0, (l.length : Int), ()) l.length ?_ ?_ ?_ (by omega)]
  · rfl
  · rfl
  · intro j hj
    have hc := h l[j] (List.getElem_mem hj)
    simp only [cc] at hc
    simp (disch := omega) only [obs, rC_c, rA_agg, rT_tup, rP_ptr, rW_own, rS_sb, rF_sb, uncV_cons, uncO_cons, nilV_nil, rO_ob, rN_ob, unc_cons, asI_int, asB_bool, asS_string, asSl_sl, asSl_nl, asFn_fn, asP_cp, nrm_sl, nrm_nl, need_true, ct, cf, bd_eq, natD_zero, natD_succ, natD_one, noYl_v, noYl_sl, noYl_nl, noYl_cp, noYl_fn, Bool.and_true, Bool.true_and, Bool.and_self, beqN_self, Bool.not_true, Bool.not_false, Bool.and_false, Bool.false_and, Bool.or_false, Bool.false_or, Bool.or_true, Bool.true_or, wrap_in, dlt_t, dlt_f, dle_t, dle_f, dgt_t, dgt_f, dge_t, dge_f, ibeq_t, ibeq_f, ibne_t, ibne_f, inR_int, beqN_eq, bleN_le, Int.toNat_natCast, fl_at cc_length hj, cc, List.cons_append, hc]
    rfl
  · simp (disch := omega) only [obs, rC_c, rA_agg, rT_tup, rP_ptr, rW_own, rS_sb, rF_sb, uncV_cons, uncO_cons, nilV_nil, rO_ob, rN_ob, unc_cons, asI_int, asB_bool, asS_string, asSl_sl, asSl_nl, asFn_fn, asP_cp, nrm_sl, nrm_nl, need_true, ct, cf, bd_eq, natD_zero, natD_succ, natD_one, noYl_v, noYl_sl, noYl_nl, noYl_cp, noYl_fn, Bool.and_true, Bool.true_and, Bool.and_self, beqN_self, Bool.not_true, Bool.not_false, Bool.and_false, Bool.false_and, Bool.or_false, Bool.false_or, Bool.or_true, Bool.true_or, wrap_in, dlt_t, dlt_f, dle_t, dle_f, dgt_t, dgt_f, dge_t, dge_f, ibeq_t, ibeq_f, ibne_t, ibne_f, inR_int, beqN_eq, bleN_le]
theorem no_ssapi (k1 : Nat) (cy : List (List Cnt)) (hl : cy.length ≤ 1000) (h : ∀ l ∈ cy, cl fu d k1 [V.c (cyC l)] [] = some ⟨B false, [], none⟩) :
    cl fu (d + 2) fn_slices_ContainsFunc_ssapi_Count_sapi_Count [V.c (.sl cy.length (cycs cy)), V.c (.fn k1 [])] [] = some ⟨B false, [], none⟩ := by
  rw [eq_slices_ContainsFunc_ssapi_Count_sapi_Count, eq_slices_IndexFunc_ssapi_Count_sapi_Count]
  rw [iter_runx (fun j : Nat => ((0 : Int), ((j : Nat) : Int), ())) 0 (0, (cy.length : Int), ()) cy.length ?_ ?_ ?_ (by omega)]
  · rfl
  · rfl
  · intro j hj
    have hc := h cy[j] (List.getElem_mem hj)
    unfold cyC at hc
    have hd : List.drop j (cycs cy) = cyC cy[j] :: List.drop (j + 1) (cycs cy) := by
      rw [List.drop_eq_getElem_cons (show j < (cycs cy).length by simpa [cycs] using hj)]; simp [cycs]
    simp (disch := omega) only [obs, rC_c, rA_agg, rT_tup, rP_ptr, rW_own, rS_sb, rF_sb, uncV_cons, uncO_cons, nilV_nil, rO_ob, rN_ob, unc_cons, asI_int, asB_bool, asS_string, asSl_sl, asSl_nl, asFn_fn, asP_cp, nrm_sl, nrm_nl, need_true, ct, cf, bd_eq, natD_zero, natD_succ, natD_one, noYl_v, noYl_sl, noYl_nl, noYl_cp, noYl_fn, Bool.and_true, Bool.true_and, Bool.and_self, beqN_self, Bool.not_true, Bool.not_false, Bool.and_false, Bool.false_and, Bool.or_false, Bool.false_or, Bool.or_true, Bool.true_or, wrap_in, dlt_t, dlt_f, dle_t, dle_f, dgt_t, dgt_f, dge_t, dge_f, ibeq_t, ibeq_f, ibne_t, ibne_f, inR_int, beqN_eq, bleN_le, Int.toNat_natCast, Nat.mul_one, hd, hc, cyC]
    rfl
  · simp (disch := omega) only [obs, rC_c, rA_agg, rT_tup, rP_ptr, rW_own, rS_sb, rF_sb, uncV_cons, uncO_cons, nilV_nil, rO_ob, rN_ob, unc_cons, asI_int, asB_bool, asS_string, asSl_sl, asSl_nl, asFn_fn, asP_cp, nrm_sl, nrm_nl, need_true, ct, cf, bd_eq, natD_zero, natD_succ, natD_one, noYl_v, noYl_sl, noYl_nl, noYl_cp, noYl_fn, Bool.and_true, Bool.true_and, Bool.and_self, beqN_self, Bool.not_true, Bool.not_false, Bool.and_false, Bool.false_and, Bool.or_false, Bool.false_or, Bool.or_true, Bool.true_or, wrap_in, dlt_t, dlt_f, dle_t, dle_f, dgt_t, dgt_f, dge_t, dge_f, ibeq_t, ibeq_f, ibne_t, ibne_f, inR_int, beqN_eq, bleN_le]
theorem no_ssapi1 (k1 : Nat) (x : C) (cy : List (List Cnt)) (hl : cy.length ≤ 1000) (h : ∀ l ∈ cy, cl fu d k1 [V.c (cyC l), V.c x] [] = some ⟨B false, [], none⟩) :
    cl fu (d + 2) fn_slices_ContainsFunc_ssapi_Count_sapi_Count [V.c (.sl cy.length (cycs cy)), V.c (.fn k1 [x])] [] = some ⟨B false, [], none⟩ := by
  rw [eq1_slices_ContainsFunc_ssapi_Count_sapi_Count, eq1_slices_IndexFunc_ssapi_Count_sapi_Count]
  rw [iter_runx (fun j : Nat => ((0 : Int), ((j : Nat) : Int), ())) 0 (0, (cy.length : Int), ()) cy.length ?_ ?_ ?_ (by omega)]
  · rfl
  · rfl
  · intro j hj
    have hc := h cy[j] (List.getElem_mem hj)
    unfold cyC at hc
    have hd : List.drop j (cycs cy) = cyC cy[j] :: List.drop (j + 1) (cycs cy) := by
      rw [List.drop_eq_getElem_cons (show j < (cycs cy).length by simpa [cycs] using hj)]; simp [cycs]
    simp (disch := omega) only [obs, rC_c, rA_agg, rT_tup, rP_ptr, rW_own, rS_sb, rF_sb, uncV_cons, uncO_cons, nilV_nil, rO_ob, rN_ob, unc_cons, asI_int, asB_bool, asS_string, asSl_sl, asSl_nl, asFn_fn, asP_cp, nrm_sl, nrm_nl, need_true, ct, cf, bd_eq, natD_zero, natD_succ, natD_one, noYl_v, noYl_sl, noYl_nl, noYl_cp, noYl_fn, Bool.and_true, Bool.true_and, Bool.and_self, beqN_self, Bool.not_true, Bool.not_false, Bool.and_false, Bool.false_and, Bool.or_false, Bool.false_or, Bool.or_true, Bool.true_or, wrap_in, dlt_t, dlt_f, dle_t, dle_f, dgt_t, dgt_f, dge_t, dge_f, ibeq_t, ibeq_f, ibne_t, ibne_f, inR_int, beqN_eq, bleN_le, Int.toNat_natCast, Nat.mul_one, hd, hc, cyC]
    rfl
  · simp (disch := omega) only [obs, rC_c, rA_agg, rT_tup, rP_ptr, rW_own, rS_sb, rF_sb, uncV_cons, uncO_cons, nilV_nil, rO_ob, rN_ob, unc_cons, asI_int, asB_bool, asS_string, asSl_sl, asSl_nl, asFn_fn, asP_cp, nrm_sl, nrm_nl, need_true, ct, cf, bd_eq, natD_zero, natD_succ, natD_one, noYl_v, noYl_sl, noYl_nl, noYl_cp, noYl_fn, Bool.and_true, Bool.true_and, Bool.and_self, beqN_self, Bool.not_true, Bool.not_false, Bool.and_false, Bool.false_and, Bool.or_false, Bool.false_or, Bool.or_true, Bool.true_or, wrap_in, dlt_t, dlt_f, dle_t, dle_f, dgt_t, dgt_f, dge_t, dge_f, ibeq_t, ibeq_f, ibne_t, ibne_f, inR_int, beqN_eq, bleN_le]
theorem no_sstr (k1 : Nat) (l : List ByteArray) (hl : l.length ≤ 1000) (h : ∀ s ∈ l, cl fu d k1 [V.c (.v (.string s))] [] = some ⟨B false, [], none⟩) :
    cl fu (d + 2) fn_slices_ContainsFunc_sstring_string [V.c (.sl l.length (strs l)), V.c (.fn k1 [])] [] = some ⟨B false, [], none⟩ := by
  rw [eq_slices_ContainsFunc_sstring_string, eq_slices_IndexFunc_sstring_string]
  rw [iter_runx (fun j : Nat => ((0 : Int), ((j : Nat) : Int), ())) 0 (0, (l.length : Int), ()) l.length ?_ ?_ ?_ (by omega)]
  · rfl
  · rfl
  · intro j hj
    have hc := h l[j] (List.getElem_mem hj)
    rw [strs_fl]
    simp (disch := omega) only [obs, rC_c, rA_agg, rT_tup, rP_ptr, rW_own, rS_sb, rF_sb, uncV_cons, uncO_cons, nilV_nil, rO_ob, rN_ob, unc_cons, asI_int, asB_bool, asS_string, asSl_sl, asSl_nl, asFn_fn, asP_cp, nrm_sl, nrm_nl, need_true, ct, cf, bd_eq, natD_zero, natD_succ, natD_one, noYl_v, noYl_sl, noYl_nl, noYl_cp, noYl_fn, Bool.and_true, Bool.true_and, Bool.and_self, beqN_self, Bool.not_true, Bool.not_false, Bool.and_false, Bool.false_and, Bool.or_false, Bool.false_or, Bool.or_true, Bool.true_or, wrap_in, dlt_t, dlt_f, dle_t, dle_f, dgt_t, dgt_f, dge_t, dge_f, ibeq_t, ibeq_f, ibne_t, ibne_f, inR_int, beqN_eq, bleN_le, Int.toNat_natCast, fl_at sc_length hj, sc, List.cons_append, hc]
    rfl
  · simp (disch := omega) only [obs, rC_c, rA_agg, rT_tup, rP_ptr, rW_own, rS_sb, rF_sb, uncV_cons, uncO_cons, nilV_nil, rO_ob, rN_ob, unc_cons, asI_int, asB_bool, asS_string, asSl_sl, asSl_nl, asFn_fn, asP_cp, nrm_sl, nrm_nl, need_true, ct, cf, bd_eq, natD_zero, natD_succ, natD_one, noYl_v, noYl_sl, noYl_nl, noYl_cp, noYl_fn, Bool.and_true, Bool.true_and, Bool.and_self, beqN_self, Bool.not_true, Bool.not_false, Bool.and_false, Bool.false_and, Bool.or_false, Bool.false_or, Bool.or_true, Bool.true_or, wrap_in, dlt_t, dlt_f, dle_t, dle_f, dgt_t, dgt_f, dge_t, dge_f, ibeq_t, ibeq_f, ibne_t, ibne_f, inR_int, beqN_eq, bleN_le]

theorem sp_ascending (l : List ByteArray) (hl : l.length ≤ 1000) (h : asc l) : cl fu (d + 1) fn_blacklist_ascending [V.c (.sl l.length (strs l))] [] = some ⟨B true, [], none⟩ := by
  rw [eq_blacklist_ascending]
  rw [iter_runx (fun j : Nat => (false, (((j + 1 : Nat) : Nat) : Int), ())) 0 (false, ((l.length - 1 + 1 : Nat) : Int), ()) (l.length - 1) ?_ ?_ ?_ (by omega)]
  · rfl
  · rfl
  · intro j hj
    have h1 : j < l.length := by omega
    have h2 : j + 1 < l.length := by omega
    have hc := h j l[j] l[j + 1] (by simp [h1]) (by simp [h2])
    unfold ltS at hc
    rw [strs_fl]
    have e : ((j + 1 : Nat) : Int) - 1 = (j : Int) := by omega
    simp (disch := omega) only [obs, rC_c, rA_agg, rT_tup, rP_ptr, rW_own, rS_sb, rF_sb, uncV_cons, uncO_cons, nilV_nil, rO_ob, rN_ob, unc_cons, asI_int, asB_bool, asS_string, asSl_sl, asSl_nl, asFn_fn, asP_cp, nrm_sl, nrm_nl, need_true, ct, cf, bd_eq, natD_zero, natD_succ, natD_one, noYl_v, noYl_sl, noYl_nl, noYl_cp, noYl_fn, Bool.and_true, Bool.true_and, Bool.and_self, beqN_self, Bool.not_true, Bool.not_false, Bool.and_false, Bool.false_and, Bool.or_false, Bool.false_or, Bool.or_true, Bool.true_or, wrap_in, dlt_t, dlt_f, dle_t, dle_f, dgt_t, dgt_f, dge_t, dge_f, ibeq_t, ibeq_f, ibne_t, ibne_f, inR_int, beqN_eq, bleN_le, e, Int.toNat_natCast, fl_at sc_length h1, fl_at sc_length h2, sc, List.cons_append, hc]
    rfl
  · simp (disch := omega) only [obs, rC_c, rA_agg, rT_tup, rP_ptr, rW_own, rS_sb, rF_sb, uncV_cons, uncO_cons, nilV_nil, rO_ob, rN_ob, unc_cons, asI_int, asB_bool, asS_string, asSl_sl, asSl_nl, asFn_fn, asP_cp, nrm_sl, nrm_nl, need_true, ct, cf, bd_eq, natD_zero, natD_succ, natD_one, noYl_v, noYl_sl, noYl_nl, noYl_cp, noYl_fn, Bool.and_true, Bool.true_and, Bool.and_self, beqN_self, Bool.not_true, Bool.not_false, Bool.and_false, Bool.false_and, Bool.or_false, Bool.false_or, Bool.or_true, Bool.true_or, wrap_in, dlt_t, dlt_f, dle_t, dle_f, dgt_t, dgt_f, dge_t, dge_f, ibeq_t, ibeq_f, ibne_t, ibne_f, inR_int, beqN_eq, bleN_le]

theorem sp_names (l : List Cnt) (hl : l.length ≤ 1000) : cl fu (d + 1) fn_blacklist_names [V.c (.sl l.length (fl cc l))] [] = some ⟨V.c (.sl l.length (strs (l.map Cnt.nm))), [], none⟩ := by
  rw [eq_blacklist_names]
  have hsl : ∀ l : List ByteArray, (strs l).length = l.length := fun l => by simp [strs]
  rw [iter_runx (fun j : Nat => (strs ((l.take j).map Cnt.nm), ((j : Nat) : Int), ())) 0 (strs (l.map Cnt.nm), (l.length : Int), ()) l.length ?_ ?_ ?_ (by omega)]
  · simp (disch := omega) only [obs, rC_c, rA_agg, rT_tup, rP_ptr, rW_own, rS_sb, rF_sb, uncV_cons, uncO_cons, nilV_nil, rO_ob, rN_ob, unc_cons, asI_int, asB_bool, asS_string, asSl_sl, asSl_nl, asFn_fn, asP_cp, nrm_sl, nrm_nl, need_true, ct, cf, bd_eq, natD_zero, natD_succ, natD_one, noYl_v, noYl_sl, noYl_nl, noYl_cp, noYl_fn, Bool.and_true, Bool.true_and, Bool.and_self, beqN_self, Bool.not_true, Bool.not_false, Bool.and_false, Bool.false_and, Bool.or_false, Bool.false_or, Bool.or_true, Bool.true_or, wrap_in, dlt_t, dlt_f, dle_t, dle_f, dgt_t, dgt_f, dge_t, dge_f, ibeq_t, ibeq_f, ibne_t, ibne_f, inR_int, beqN_eq, bleN_le, hsl, List.length_map, Nat.div_one, Nat.mul_one, Nat.zero_add]
    rw [List.take_of_length_le (by rw [hsl, List.length_map]; omega)]
  · rfl
  · intro j hj
    have ht : strs ((l.take (j + 1)).map Cnt.nm) = strs ((l.take j).map Cnt.nm) ++ [C.v (.string l[j].nm)] := by
      rw [List.take_succ_eq_append_getElem hj, List.map_append, strs, List.map_append]; rfl
    have hlt : (strs ((l.take j).map Cnt.nm)).length = j := by rw [hsl, List.length_map, List.length_take]; omega
    simp (disch := omega) only [obs, rC_c, rA_agg, rT_tup, rP_ptr, rW_own, rS_sb, rF_sb, uncV_cons, uncO_cons, nilV_nil, rO_ob, rN_ob, unc_cons, asI_int, asB_bool, asS_string, asSl_sl, asSl_nl, asFn_fn, asP_cp, nrm_sl, nrm_nl, need_true, ct, cf, bd_eq, natD_zero, natD_succ, natD_one, noYl_v, noYl_sl, noYl_nl, noYl_cp, noYl_fn, Bool.and_true, Bool.true_and, Bool.and_self, beqN_self, Bool.not_true, Bool.not_false, Bool.and_false, Bool.false_and, Bool.or_false, Bool.false_or, Bool.or_true, Bool.true_or, wrap_in, dlt_t, dlt_f, dle_t, dle_f, dgt_t, dgt_f, dge_t, dge_f, ibeq_t, ibeq_f, ibne_t, ibne_f, inR_int, beqN_eq, bleN_le, Int.toNat_natCast, fl_at cc_length hj, cc, List.cons_append, hlt, List.length_append, List.length_cons, List.length_nil, Nat.div_one, Nat.mul_one, Nat.zero_add, ht]
    rfl
  · simp (disch := omega) only [obs, rC_c, rA_agg, rT_tup, rP_ptr, rW_own, rS_sb, rF_sb, uncV_cons, uncO_cons, nilV_nil, rO_ob, rN_ob, unc_cons, asI_int, asB_bool, asS_string, asSl_sl, asSl_nl, asFn_fn, asP_cp, nrm_sl, nrm_nl, need_true, ct, cf, bd_eq, natD_zero, natD_succ, natD_one, noYl_v, noYl_sl, noYl_nl, noYl_cp, noYl_fn, Bool.and_true, Bool.true_and, Bool.and_self, beqN_self, Bool.not_true, Bool.not_false, Bool.and_false, Bool.false_and, Bool.or_false, Bool.false_or, Bool.or_true, Bool.true_or, wrap_in, dlt_t, dlt_f, dle_t, dle_f, dgt_t, dgt_f, dge_t, dge_f, ibeq_t, ibeq_f, ibne_t, ibne_f, inR_int, beqN_eq, bleN_le, hsl, List.length_map, List.length_take, Nat.div_one, Nat.mul_one, List.take_length]
end
end Go.Proofs.Ytofalpngdbinbaa
/- A valid history is found to be one. -/
namespace Go.Proofs.Ytofalpngdbinbaa
open Go Go.PM

section
variable (fu d : Nat) (hf : 18446744073709551616 ≤ fu)
theorem sp_Val2 {s : ByteArray} (h : nameOk s) : cl fu (d + 3) fn_blacklist_Validate_2 [V.c (.v (.string s))] [] = some ⟨B false, [], none⟩ := by
  rw [eq_blacklist_Validate_2, sp_Name fu d h]; rfl

theorem sp_valid {c : Cnt} (h : cntOk c) : cl fu (d + 1) fn_blacklist_valid [V.agg (cc c)] [] = some ⟨B true, [], none⟩ := by
  obtain ⟨_, ⟨h1, h2⟩, h3, h4⟩ := h
  unfold cc
  rw [eq_blacklist_valid]
  simp (disch := omega) only [obs, rC_c, rA_agg, rT_tup, rP_ptr, rW_own, rS_sb, rF_sb, uncV_cons, uncO_cons, nilV_nil, rO_ob, rN_ob, unc_cons, asI_int, asB_bool, asS_string, asSl_sl, asSl_nl, asFn_fn, asP_cp, nrm_sl, nrm_nl, need_true, ct, cf, bd_eq, natD_zero, natD_succ, natD_one, noYl_v, noYl_sl, noYl_nl, noYl_cp, noYl_fn, Bool.and_true, Bool.true_and, Bool.and_self, beqN_self, Bool.not_true, Bool.not_false, Bool.and_false, Bool.false_and, Bool.or_false, Bool.false_or, Bool.or_true, Bool.true_or, wrap_in, dlt_t, dlt_f, dle_t, dle_f, dgt_t, dgt_f, dge_t, dge_f, ibeq_t, ibeq_f, ibne_t, ibne_f, inR_int, beqN_eq, bleN_le]

include hf
theorem sp_Validate {h1 h2 : C} {cy : List (List Cnt)} {nm : List ByteArray} (e1 : nrm h1 = .sl cy.length (cycs cy)) (e2 : nrm h2 = .sl nm.length (strs nm)) (hok : histOk cy nm) :
    cl fu (d + 12) fn_blacklist_Validate [V.agg [h1, h2]] [] = some ⟨I 0, [], none⟩ := by
  obtain ⟨k1, k2, k3, k4, k5⟩ := hok
  have a1 := no_ssapi fu (d + 9) hf fn_blacklist_Validate_1 cy (by omega) fun l hl => by
    unfold cyC
    rw [eq_blacklist_Validate_1]
    have := (k2 l hl).1
    simp (disch := omega) only [obs, rC_c, rA_agg, rT_tup, rP_ptr, rW_own, rS_sb, rF_sb, uncV_cons, uncO_cons, nilV_nil, rO_ob, rN_ob, unc_cons, asI_int, asB_bool, asS_string, asSl_sl, asSl_nl, asFn_fn, asP_cp, nrm_sl, nrm_nl, need_true, ct, cf, bd_eq, natD_zero, natD_succ, natD_one, noYl_v, noYl_sl, noYl_nl, noYl_cp, noYl_fn, Bool.and_true, Bool.true_and, Bool.and_self, beqN_self, Bool.not_true, Bool.not_false, Bool.and_false, Bool.false_and, Bool.or_false, Bool.false_or, Bool.or_true, Bool.true_or, wrap_in, dlt_t, dlt_f, dle_t, dle_f, dgt_t, dgt_f, dge_t, dge_f, ibeq_t, ibeq_f, ibne_t, ibne_f, inR_int, beqN_eq, bleN_le]
  have a2 : cl fu (d + 11) fn_blacklist_some [V.agg [h1, h2], V.c (C.fn fn_blacklist_Validate_3 [C.cp [C.fn fn_blacklist_Validate_2 []]])] [] = some ⟨B false, [], none⟩ := by
    rw [eq1_blacklist_some, e1]
    rw [no_ssapi1 fu (d + 8) hf fn_blacklist_some_1 (C.cp [C.fn fn_blacklist_Validate_3 [C.cp [C.fn fn_blacklist_Validate_2 []]]]) cy (by omega) fun l hl => by
      unfold cyC
      rw [eq_blacklist_some_1]
      have hk := k2 l hl
      have := no_sapi1 fu (d + 5) hf fn_blacklist_Validate_3 (C.cp [C.fn fn_blacklist_Validate_2 []]) l (by have := hk.1; omega) fun c hc => by
        unfold cc
        rw [eq_blacklist_Validate_3, sp_Val2 fu (d + 1) (hk.2.1 c hc).1]
        rfl
      simp only [unc_cons]
      rw [this]
      rfl]
    rfl
  have a3 : cl fu (d + 11) fn_blacklist_some [V.agg [h1, h2], V.c (C.fn fn_blacklist_Validate_4 [])] [] = some ⟨B false, [], none⟩ := by
    rw [eq_blacklist_some, e1]
    rw [no_ssapi1 fu (d + 8) hf fn_blacklist_some_1 (C.cp [C.fn fn_blacklist_Validate_4 []]) cy (by omega) fun l hl => by
      unfold cyC
      rw [eq_blacklist_some_1]
      have hk := k2 l hl
      have := no_sapi fu (d + 5) hf fn_blacklist_Validate_4 l (by have := hk.1; omega) fun c hc => by
        have hv := sp_valid fu (d + 3) (hk.2.1 c hc)
        unfold cc at hv ⊢
        rw [eq_blacklist_Validate_4, hv]
        rfl
      simp only [unc_cons]
      rw [this]
      rfl]
    rfl
  have a4 := no_sstr fu (d + 9) hf fn_blacklist_Validate_2 nm (by omega) fun s hs => sp_Val2 fu (d + 6) (k4 s hs)
  have a5 := sp_ascending fu (d + 10) hf nm (by omega) k5
  have a6 := no_ssapi fu (d + 9) hf fn_blacklist_Validate_5 cy (by omega) fun l hl => by
    unfold cyC
    have hk := k2 l hl
    have hq := sp_ascending fu (d + 7) hf (l.map Cnt.nm) (by rw [List.length_map]; have := hk.1; omega) hk.2.2
    rw [List.length_map] at hq
    rw [eq_blacklist_Validate_5, sp_names fu (d + 7) hf l (by have := hk.1; omega)]
    simp only [obs, rC_c, rA_agg, rT_tup, rP_ptr, rW_own, rS_sb, rF_sb, uncV_cons, uncO_cons, nilV_nil, rO_ob, rN_ob, unc_cons, asI_int, asB_bool, asS_string, asSl_sl, asSl_nl, asFn_fn, asP_cp, nrm_sl, nrm_nl, need_true, ct, cf, bd_eq, natD_zero, natD_succ, natD_one, noYl_v, noYl_sl, noYl_nl, noYl_cp, noYl_fn, Bool.and_true, Bool.true_and, Bool.and_self, beqN_self, Bool.not_true, Bool.not_false, Bool.and_false, Bool.false_and, Bool.or_false, Bool.false_or, Bool.or_true, Bool.true_or, hq]
  rw [eq_blacklist_Validate, e1, e2]
  simp (disch := omega) only [obs, rC_c, rA_agg, rT_tup, rP_ptr, rW_own, rS_sb, rF_sb, uncV_cons, uncO_cons, nilV_nil, rO_ob, rN_ob, unc_cons, asI_int, asB_bool, asS_string, asSl_sl, asSl_nl, asFn_fn, asP_cp, nrm_sl, nrm_nl, need_true, ct, cf, bd_eq, natD_zero, natD_succ, natD_one, noYl_v, noYl_sl, noYl_nl, noYl_cp, noYl_fn, Bool.and_true, Bool.true_and, Bool.and_self, beqN_self, Bool.not_true, Bool.not_false, Bool.and_false, Bool.false_and, Bool.or_false, Bool.false_or, Bool.or_true, Bool.true_or, wrap_in, dlt_t, dlt_f, dle_t, dle_f, dgt_t, dgt_f, dge_t, dge_f, ibeq_t, ibeq_f, ibne_t, ibne_f, inR_int, beqN_eq, bleN_le, a1, a2, a3, a4, a5, a6, asSl_nrm e1, asSl_nrm e2]
end
end Go.Proofs.Ytofalpngdbinbaa
/- Strings; the sums of a history's counts, as a map's entries. -/
namespace Go.Proofs.Ytofalpngdbinbaa
open Go Go.PM

theorem loop_eq (bs : ByteArray) : ∀ (n i : Nat) (r : List UInt8), bs.size - i = n → ByteArray.toList.loop bs i r = r.reverse ++ bs.data.toList.drop i
  | 0, i, r, h => by
    unfold ByteArray.toList.loop
    have hs : bs.size = bs.data.toList.length := by rw [Array.length_toList]; rfl
    rw [if_neg (by omega), List.drop_eq_nil_of_le (by omega), List.append_nil]
  | n + 1, i, r, h => by
    unfold ByteArray.toList.loop
    have hs : bs.size = bs.data.toList.length := by rw [Array.length_toList]; rfl
    rw [if_pos (by omega), loop_eq bs n (i + 1) _ (by omega), List.drop_eq_getElem_cons (show i < bs.data.toList.length by omega)]
    have : bs.get! i = bs.data.toList[i]'(by omega) := by
      have hi : i < bs.data.size := by simpa using (show i < bs.data.toList.length by omega)
      simp [ByteArray.get!, getElem!_pos bs.data i hi]
    simp [this]
theorem toList_eq (bs : ByteArray) : bs.toList = bs.data.toList := by
  unfold ByteArray.toList; rw [loop_eq bs _ 0 [] rfl]; simp
theorem toList_inj {a b : ByteArray} (h : a.toList = b.toList) : a = b := by
  rw [toList_eq, toList_eq] at h
  cases a; cases b; simp at h; simp [h]

theorem toList_beq {a b : ByteArray} : (a.toList == b.toList) = decide (a = b) := by
  by_cases h : a = b
  · subst h; simp
  · rw [decide_eq_false h, beq_eq_false_iff_ne]; exact fun e => h (toList_inj e)

/-- An entry: a name and two sums. -/
abbrev Ent := ByteArray × Int × Int
def valC (q : Int × Int) : List C := [.v (.string ⟨#[]⟩), .v (.int .i64 q.1), .v (.int .i64 q.2)]
def ent (e : Ent) : List C × List C := ([.v (.string e.1)], valC e.2)
def look : List Ent → ByteArray → Nat → Option (Nat × Int × Int)
  | [], _, _ => none
  | e :: r, s, i => if e.1 = s then some (i, e.2) else look r s (i + 1)
def upd (M : List Ent) (s : ByteArray) (q : Int × Int) : List Ent := match look M s 0 with | some p => M.set p.1 (s, q) | none => M ++ [(s, q)]
def val (M : List Ent) (s : ByteArray) : Int × Int := match look M s 0 with | some p => p.2 | none => (0, 0)
def keys (M : List Ent) : List ByteArray := M.map (·.1)

theorem eqT_str (s e : ByteArray) : eqT Try.prog 20 ty_string [.v (.string s)] [.v (.string e)] = some (s.toList == e.toList) := by kernel_rfl
theorem mfind_ent (s : ByteArray) : ∀ (M : List Ent) (i : Nat), mfind Try.prog ty_string [.v (.string s)] (M.map ent) i = some ((look M s i).map fun q => (q.1, valC q.2))
  | [], i => rfl
  | e :: M, i => by
    simp only [List.map_cons, mfind, ent, eqT_str, toList_beq]
    by_cases h : e.1 = s
    · rw [decide_eq_true h.symm]
      simp [look, h, ceqs, ceq, need]
    · rw [decide_eq_false (fun e => h e.symm)]
      simp only [cond_false, look, if_neg h]
      exact mfind_ent s M (i + 1)
theorem mfd_ent (M : List Ent) (s : ByteArray) : mfd ty_string [.v (.string s)] (M.map ent) = some ((look M s 0).map fun q => (q.1, valC q.2)) := mfind_ent s M 0
theorem mput_ent (M : List Ent) (s : ByteArray) (q : Int × Int) : mput (M.map ent) ((look M s 0).map fun q => (q.1, valC q.2)) [.v (.string s)] (valC q) = (upd M s q).map ent := by
  unfold upd
  cases look M s 0 with
  | none => simp [mput, ent]
  | some p => simp [mput, ent, List.map_set]
theorem orZ_ent (M : List Ent) (s : ByteArray) : orZ ((look M s 0).map fun q => (q.1, valC q.2)) [.v (.string ⟨#[]⟩), .v (.int .i64 0), .v (.int .i64 0)] = valC (val M s) := by
  unfold val
  cases look M s 0 <;> rfl

theorem look_spec (s : ByteArray) : ∀ (M : List Ent) (i : Nat), (look M s i = none ∧ s ∉ keys M) ∨ ∃ j q, look M s i = some (i + j, q) ∧ M[j]? = some (s, q) ∧ ∀ k, k < j → (keys M)[k]? ≠ some s
  | [], i => .inl ⟨rfl, by simp [keys]⟩
  | e :: M, i => by
    by_cases h : e.1 = s
    · refine .inr ⟨0, e.2, by simp [look, h], by simp [← h], by simp⟩
    · rcases look_spec s M (i + 1) with ⟨h1, h2⟩ | ⟨j, q, h1, h2, h3⟩
      · exact .inl ⟨by simp [look, h, h1], by simp [keys] at h2 ⊢; exact ⟨fun e => h e.symm, h2⟩⟩
      · refine .inr ⟨j + 1, q, by simp [look, h, h1]; omega, by simpa using h2, fun k hk => ?_⟩
        cases k with
        | zero => simp [keys, h]
        | succ k => have := h3 k (by omega); simpa [keys] using this

theorem keys_upd (M : List Ent) (s : ByteArray) (q : Int × Int) : (s ∈ keys M ∧ keys (upd M s q) = keys M) ∨ (s ∉ keys M ∧ keys (upd M s q) = keys M ++ [s]) := by
  unfold upd
  rcases look_spec s M 0 with ⟨h1, h2⟩ | ⟨j, q', h1, h2, _⟩
  · rw [h1]; exact .inr ⟨h2, by simp [keys]⟩
  · have hm : s ∈ keys M := List.mem_map.2 ⟨_, List.mem_of_getElem? h2, rfl⟩
    rw [h1]
    refine .inl ⟨hm, ?_⟩
    simp only [keys, Nat.zero_add, List.map_set]
    apply List.ext_getElem?
    intro i
    rw [List.getElem?_set]
    split
    · rename_i e
      subst e
      have hj : j < M.length := (List.getElem?_eq_some_iff.1 h2).1
      rw [if_pos (by simpa using hj), List.getElem?_map, h2]; rfl
    · rfl
theorem nodup_upd {M : List Ent} (h : (keys M).Nodup) (s : ByteArray) (q : Int × Int) : (keys (upd M s q)).Nodup := by
  rcases keys_upd M s q with ⟨_, e⟩ | ⟨hn, e⟩
  · rw [e]; exact h
  · rw [e]
    exact List.nodup_append.2 ⟨h, by simp, fun a ha b hb => by simp at hb; subst hb; exact fun e => hn (e ▸ ha)⟩
theorem mem_upd (M : List Ent) (s s' : ByteArray) (q : Int × Int) : s' ∈ keys (upd M s q) ↔ s' = s ∨ s' ∈ keys M := by
  rcases keys_upd M s q with ⟨h, e⟩ | ⟨hn, e⟩
  · rw [e]; exact ⟨.inr, fun h' => h'.elim (fun e => e ▸ h) id⟩
  · rw [e]; simp [or_comm]

theorem look_append (s : ByteArray) (x : Ent) : ∀ (M : List Ent) (i : Nat), s ∉ keys M → look (M ++ [x]) s i = if x.1 = s then some (i + M.length, x.2) else none
  | [], i, _ => by simp [look]
  | e :: M, i, h => by
    have h1 : e.1 ≠ s := fun e' => h (by simp [keys, e'])
    have h2 : s ∉ keys M := fun h' => h (by simp [keys] at h' ⊢; exact .inr h')
    simp only [List.cons_append, look, if_neg h1, look_append s x M (i + 1) h2, List.length_cons]
    split
    · congr 2; omega
    · rfl
theorem look_append_ne (s : ByteArray) (x : Ent) (hx : x.1 ≠ s) : ∀ (M : List Ent) (i : Nat), look (M ++ [x]) s i = look M s i
  | [], i => by simp [look, hx]
  | e :: M, i => by simp only [List.cons_append, look, look_append_ne s x hx M (i + 1)]
theorem look_set_ne (s s' : ByteArray) (q : Int × Int) (hs : s ≠ s') : ∀ (M : List Ent) (j i : Nat), ((keys M)[j]? = some s) → look (M.set j (s, q)) s' i = look M s' i
  | [], j, i, h => by simp [keys] at h
  | e :: M, 0, i, h => by
    have : e.1 = s := by simpa [keys] using h
    simp [look, this, hs]
  | e :: M, j + 1, i, h => by
    have h' : (keys M)[j]? = some s := by simpa [keys] using h
    simp only [List.set_cons_succ, look, look_set_ne s s' q hs M j (i + 1) h']
theorem look_set_eq (s : ByteArray) (q : Int × Int) : ∀ (M : List Ent) (j i : Nat), ((keys M)[j]? = some s) → (∀ k, k < j → (keys M)[k]? ≠ some s) → look (M.set j (s, q)) s i = some (i + j, q)
  | [], j, i, h, _ => by simp [keys] at h
  | e :: M, 0, i, h, _ => by simp [look]
  | e :: M, j + 1, i, h, hk => by
    have h' : (keys M)[j]? = some s := by simpa [keys] using h
    have h0 : e.1 ≠ s := fun e' => hk 0 (by omega) (by simp [keys, e'])
    simp only [List.set_cons_succ, look, if_neg h0, look_set_eq s q M j (i + 1) h' (fun k hk' => by have := hk (k + 1) (by omega); simpa [keys] using this)]
    congr 2; omega

theorem val_upd (M : List Ent) (s s' : ByteArray) (q : Int × Int) : val (upd M s q) s' = if s' = s then q else val M s' := by
  unfold upd
  rcases look_spec s M 0 with ⟨h1, h2⟩ | ⟨j, q', h1, h2, h3⟩
  · rw [h1]
    unfold val
    by_cases e : s' = s
    · subst e; rw [if_pos rfl, look_append _ _ _ _ h2]; simp
    · rw [if_neg e, look_append_ne _ _ (fun e' => e e'.symm)]
  · rw [h1]
    have hk : (keys M)[j]? = some s := by unfold keys; rw [List.getElem?_map, h2]; rfl
    unfold val
    simp only [Nat.zero_add]
    by_cases e : s' = s
    · subst e; rw [if_pos rfl, look_set_eq _ _ _ _ _ hk h3]
    · rw [if_neg e, look_set_ne _ _ _ (fun e' => e e'.symm) _ _ _ hk]

theorem unKeys_ent : ∀ M : List Ent, unKeys (M.map ent) = some (keys M)
  | [] => rfl
  | e :: M => by simp only [List.map_cons, ent, unKeys, unKeys_ent M, Option.map_some, keys]

/-- The sums. -/
def zeros (nm : List ByteArray) : List Ent := nm.foldl (fun M s => upd M s (0, 0)) []
def addc (M : List Ent) (c : Cnt) : List Ent := upd M c.nm ((val M c.nm).1 + c.t, (val M c.nm).2 + c.r)
def addl (M : List Ent) (l : List Cnt) : List Ent := l.foldl addc M
def sumsM (cy : List (List Cnt)) (nm : List ByteArray) : List Ent := cy.foldl addl (zeros nm)
def Bnd (M : List Ent) (b : Int) : Prop := ∀ s, (0 ≤ (val M s).1 ∧ (val M s).1 ≤ b) ∧ (0 ≤ (val M s).2 ∧ (val M s).2 ≤ b)
theorem Bnd.addc {M : List Ent} {b : Int} (h : Bnd M b) {c : Cnt} (hc : cntOk c) : Bnd (addc M c) (b + 100000) := by
  intro s
  unfold Proofs.Ytofalpngdbinbaa.addc
  rw [val_upd]
  have h1 := h c.nm
  have h2 := h s
  obtain ⟨_, h3, h4⟩ := hc
  split
  · dsimp only; omega
  · omega
theorem Bnd.addl : ∀ {l : List Cnt} {M : List Ent} {b : Int} (_ : Bnd M b) (_ : ∀ c ∈ l, cntOk c), Bnd (addl M l) (b + 100000 * l.length)
  | [], M, b, h, _ => by simpa [Proofs.Ytofalpngdbinbaa.addl] using h
  | c :: l, M, b, h, hc => by
    have := Bnd.addl (l := l) (h.addc (hc c (by simp))) fun c' h' => hc c' (by simp [h'])
    simp only [Proofs.Ytofalpngdbinbaa.addl, List.foldl_cons, List.length_cons] at this ⊢
    intro s
    have := this s
    omega
theorem zeros_val (nm : List ByteArray) (s : ByteArray) : val (zeros nm) s = (0, 0) := by
  have key : ∀ (nm : List ByteArray) (M : List Ent), val M s = (0, 0) → val (nm.foldl (fun M s => upd M s (0, 0)) M) s = (0, 0) := by
    intro nm
    induction nm with
    | nil => intro M h; exact h
    | cons a nm ih => intro M h; exact ih _ (by rw [val_upd, h]; simp)
  exact key nm [] rfl
theorem Bnd.zeros (nm : List ByteArray) : Bnd (zeros nm) 0 := fun s => by rw [zeros_val]; simp
end Go.Proofs.Ytofalpngdbinbaa
/- Texts on lists; copies; a history's sums. -/
namespace Go.Proofs.Ytofalpngdbinbaa
open Go Go.PM

def hasS (l : List ByteArray) (s : ByteArray) : Bool := l.any fun x => decide (x = s)
theorem hasS_iff {l : List ByteArray} {s : ByteArray} : hasS l s = true ↔ s ∈ l := by
  simp [hasS]
theorem strs_length (l : List ByteArray) : (strs l).length = l.length := by simp [strs]
theorem cycs_length (cy : List (List Cnt)) : (cycs cy).length = cy.length := by simp [cycs]
theorem cycs_drop (cy : List (List Cnt)) {j : Nat} (hj : j < cy.length) : List.drop j (cycs cy) = cyC cy[j] :: List.drop (j + 1) (cycs cy) := by
  rw [List.drop_eq_getElem_cons (show j < (cycs cy).length by simpa [cycs] using hj)]; simp [cycs]

section
variable (fu d : Nat)
theorem sp_CloneC (l : List Cnt) (hl : l.length ≤ 1000) : cl fu (d + 1) fn_slices_Clone_sapi_Count_api_Count [V.c (.sl l.length (fl cc l))] [] = some ⟨V.c (.sl l.length (fl cc l)), [], none⟩ := by
  rw [eq_slices_Clone_sapi_Count_api_Count]
  have hL := fl_length cc_length l
  have ht : List.take (l.length * 3) (fl cc l) = fl cc l := List.take_of_length_le (by omega)
  have key : (need (Nat.beq (l.length * 3) (fl cc l).length) <|
      need ((Nat.ble ((0 + l.length) * 32) 140737488355328) && (Nat.ble (0 + l.length) 140737488355328)) <|
      need (Nat.ble (0 + ((0 + l.length) * 3)) (fl cc l).length) <|
      some (⟨V.c (C.sl (0 + l.length) (List.take ((0 + l.length) * 3) (fl cc l))), [], none⟩ : Out)) = some ⟨V.c (.sl l.length (fl cc l)), [], none⟩ := by
    simp (disch := omega) only [obs, rC_c, rA_agg, rT_tup, rP_ptr, rW_own, rS_sb, rF_sb, uncV_cons, uncO_cons, nilV_nil, rO_ob, rN_ob, unc_cons, asI_int, asB_bool, asS_string, asSl_sl, asSl_nl, asFn_fn, asP_cp, nrm_sl, nrm_nl, need_true, ct, cf, bd_eq, natD_zero, natD_succ, natD_one, noYl_v, noYl_sl, noYl_nl, noYl_cp, noYl_fn, Bool.and_true, Bool.true_and, Bool.and_self, beqN_self, Bool.not_true, Bool.not_false, Bool.and_false, Bool.false_and, Bool.or_false, Bool.false_or, Bool.or_true, Bool.true_or, wrap_in, dlt_t, dlt_f, dle_t, dle_f, dgt_t, dgt_f, dge_t, dge_f, ibeq_t, ibeq_f, ibne_t, ibne_f, inR_int, beqN_eq, bleN_le, hL, Nat.zero_add, ht]
  rw [key]
  cases l with
  | nil => exact same_self _
  | cons c l => rfl
theorem sp_CloneS (l : List ByteArray) (hl : l.length ≤ 1000) : cl fu (d + 1) fn_slices_Clone_sstring_string [V.c (.sl l.length (strs l))] [] = some ⟨V.own 1000000 0 l.length, [.sb ty_string 0 (strs l)], none⟩ := by
  rw [eq_slices_Clone_sstring_string]
  have hL := strs_length l
  have ht : List.take l.length (strs l) = strs l := List.take_of_length_le (by omega)
  have key : (need (Nat.beq (l.length * 1) (strs l).length) <|
      need ((Nat.ble ((0 + l.length) * 16) 140737488355328) && (Nat.ble (0 + l.length) 140737488355328)) <|
      need (((Nat.ble ((0 + l.length) * 1) (strs l).length) && true) && true) <|
      some (⟨V.own 1000000 0 (0 + l.length), [.sb ty_string 0 (List.take ((0 + l.length) * 1) (strs l))], none⟩ : Out)) = some ⟨V.own 1000000 0 l.length, [.sb ty_string 0 (strs l)], none⟩ := by
    simp (disch := omega) only [obs, rC_c, rA_agg, rT_tup, rP_ptr, rW_own, rS_sb, rF_sb, uncV_cons, uncO_cons, nilV_nil, rO_ob, rN_ob, unc_cons, asI_int, asB_bool, asS_string, asSl_sl, asSl_nl, asFn_fn, asP_cp, nrm_sl, nrm_nl, need_true, ct, cf, bd_eq, natD_zero, natD_succ, natD_one, noYl_v, noYl_sl, noYl_nl, noYl_cp, noYl_fn, Bool.and_true, Bool.true_and, Bool.and_self, beqN_self, Bool.not_true, Bool.not_false, Bool.and_false, Bool.false_and, Bool.or_false, Bool.false_or, Bool.or_true, Bool.true_or, wrap_in, dlt_t, dlt_f, dle_t, dle_f, dgt_t, dgt_f, dge_t, dge_f, ibeq_t, ibeq_f, ibne_t, ibne_f, inR_int, beqN_eq, bleN_le, hL, Nat.zero_add, Nat.mul_one, ht]
  rw [key]
  cases l with
  | nil => exact same_self _
  | cons c l => rfl

variable (hf : 18446744073709551616 ≤ fu)
include hf
theorem sp_Contains (l : List ByteArray) (s : ByteArray) (hl : l.length ≤ 1000000) : cl fu (d + 2) fn_slices_Contains_sstring_string [V.c (.sl l.length (strs l)), V.c (.v (.string s))] [] = some ⟨B (hasS l s), [], none⟩ := by
  rw [eq_slices_Contains_sstring_string, eq_slices_Index_sstring_string]
  have step : ∀ j (hj : j < l.length), l[j] ≠ s → (s.toList == l[j].toList) = false := fun j hj hn => by
    rw [toList_beq, decide_eq_false]; exact fun e => hn e.symm
  rcases first_or_none (fun j => l[j]? = some s) l.length with h | ⟨k, hk, h1, h2⟩
  · have hn : hasS l s = false := by
      cases e : hasS l s with
      | false => rfl
      | true =>
        obtain ⟨j, hj, e2⟩ := List.mem_iff_getElem.1 (hasS_iff.1 e)
        exact absurd (by simp [hj, e2]) (h j hj)
    rw [iter_runx (fun j : Nat => ((0 : Int), ((j : Nat) : Int), ())) 0 (0, (l.length : Int), ()) l.length ?_ ?_ ?_ (by omega)]
    · rw [hn]; rfl
    · rfl
    · intro j hj
      have hne : l[j] ≠ s := fun e => h j hj (by simp [hj, e])
      rw [strs_fl]
      simp (disch := omega) only [obs, rC_c, rA_agg, rT_tup, rP_ptr, rW_own, rS_sb, rF_sb, uncV_cons, uncO_cons, nilV_nil, rO_ob, rN_ob, unc_cons, asI_int, asB_bool, asS_string, asSl_sl, asSl_nl, asFn_fn, asP_cp, nrm_sl, nrm_nl, need_true, ct, cf, bd_eq, natD_zero, natD_succ, natD_one, noYl_v, noYl_sl, noYl_nl, noYl_cp, noYl_fn, Bool.and_true, Bool.true_and, Bool.and_self, beqN_self, Bool.not_true, Bool.not_false, Bool.and_false, Bool.false_and, Bool.or_false, Bool.false_or, Bool.or_true, Bool.true_or, wrap_in, dlt_t, dlt_f, dle_t, dle_f, dgt_t, dgt_f, dge_t, dge_f, ibeq_t, ibeq_f, ibne_t, ibne_f, inR_int, beqN_eq, bleN_le, Int.toNat_natCast, fl_at sc_length hj, sc, List.cons_append, step j hj hne]
      rfl
    · simp (disch := omega) only [obs, rC_c, rA_agg, rT_tup, rP_ptr, rW_own, rS_sb, rF_sb, uncV_cons, uncO_cons, nilV_nil, rO_ob, rN_ob, unc_cons, asI_int, asB_bool, asS_string, asSl_sl, asSl_nl, asFn_fn, asP_cp, nrm_sl, nrm_nl, need_true, ct, cf, bd_eq, natD_zero, natD_succ, natD_one, noYl_v, noYl_sl, noYl_nl, noYl_cp, noYl_fn, Bool.and_true, Bool.true_and, Bool.and_self, beqN_self, Bool.not_true, Bool.not_false, Bool.and_false, Bool.false_and, Bool.or_false, Bool.false_or, Bool.or_true, Bool.true_or, wrap_in, dlt_t, dlt_f, dle_t, dle_f, dgt_t, dgt_f, dge_t, dge_f, ibeq_t, ibeq_f, ibne_t, ibne_f, inR_int, beqN_eq, bleN_le]
  · have hks : l[k] = s := by have := h1; simpa [hk] using this
    have hn : hasS l s = true := hasS_iff.2 (hks ▸ List.getElem_mem hk)
    rw [iter_runx (fun j : Nat => ((0 : Int), ((j : Nat) : Int), ())) 1 ((k : Int), (k : Int), ()) k ?_ ?_ ?_ (by omega)]
    · simp (disch := omega) only [obs, rC_c, rA_agg, rT_tup, rP_ptr, rW_own, rS_sb, rF_sb, uncV_cons, uncO_cons, nilV_nil, rO_ob, rN_ob, unc_cons, asI_int, asB_bool, asS_string, asSl_sl, asSl_nl, asFn_fn, asP_cp, nrm_sl, nrm_nl, need_true, ct, cf, bd_eq, natD_zero, natD_succ, natD_one, noYl_v, noYl_sl, noYl_nl, noYl_cp, noYl_fn, Bool.and_true, Bool.true_and, Bool.and_self, beqN_self, Bool.not_true, Bool.not_false, Bool.and_false, Bool.false_and, Bool.or_false, Bool.false_or, Bool.or_true, Bool.true_or, wrap_in, dlt_t, dlt_f, dle_t, dle_f, dgt_t, dgt_f, dge_t, dge_f, ibeq_t, ibeq_f, ibne_t, ibne_f, inR_int, beqN_eq, bleN_le, hn]
    · rfl
    · intro j hj
      have hj' : j < l.length := by omega
      have hne : l[j] ≠ s := fun e => h2 j hj (by simp [hj', e])
      rw [strs_fl]
      simp (disch := omega) only [obs, rC_c, rA_agg, rT_tup, rP_ptr, rW_own, rS_sb, rF_sb, uncV_cons, uncO_cons, nilV_nil, rO_ob, rN_ob, unc_cons, asI_int, asB_bool, asS_string, asSl_sl, asSl_nl, asFn_fn, asP_cp, nrm_sl, nrm_nl, need_true, ct, cf, bd_eq, natD_zero, natD_succ, natD_one, noYl_v, noYl_sl, noYl_nl, noYl_cp, noYl_fn, Bool.and_true, Bool.true_and, Bool.and_self, beqN_self, Bool.not_true, Bool.not_false, Bool.and_false, Bool.false_and, Bool.or_false, Bool.false_or, Bool.or_true, Bool.true_or, wrap_in, dlt_t, dlt_f, dle_t, dle_f, dgt_t, dgt_f, dge_t, dge_f, ibeq_t, ibeq_f, ibne_t, ibne_f, inR_int, beqN_eq, bleN_le, Int.toNat_natCast, fl_at sc_length hj', sc, List.cons_append, step j hj' hne]
      rfl
    · rw [strs_fl]
      simp (disch := omega) only [obs, rC_c, rA_agg, rT_tup, rP_ptr, rW_own, rS_sb, rF_sb, uncV_cons, uncO_cons, nilV_nil, rO_ob, rN_ob, unc_cons, asI_int, asB_bool, asS_string, asSl_sl, asSl_nl, asFn_fn, asP_cp, nrm_sl, nrm_nl, need_true, ct, cf, bd_eq, natD_zero, natD_succ, natD_one, noYl_v, noYl_sl, noYl_nl, noYl_cp, noYl_fn, Bool.and_true, Bool.true_and, Bool.and_self, beqN_self, Bool.not_true, Bool.not_false, Bool.and_false, Bool.false_and, Bool.or_false, Bool.false_or, Bool.or_true, Bool.true_or, wrap_in, dlt_t, dlt_f, dle_t, dle_f, dgt_t, dgt_f, dge_t, dge_f, ibeq_t, ibeq_f, ibne_t, ibne_f, inR_int, beqN_eq, bleN_le, Int.toNat_natCast, fl_at sc_length hk, sc, List.cons_append, hks, beq_self_eq_true]

theorem sp_copied {h1 h2 : C} {cy : List (List Cnt)} {nm : List ByteArray} (e1 : nrm h1 = .sl cy.length (cycs cy)) (e2 : nrm h2 = .sl nm.length (strs nm)) (hok : histOk cy nm) :
    cl fu (d + 2) fn_blacklist_copied [V.agg [h1, h2]] [] = some ⟨V.mag [V.own 1000000 0 cy.length, V.own 1000001 0 nm.length], [.sb ty_sapi_Count 0 (cycs cy), .sb ty_string 0 (strs nm)], none⟩ := by
  obtain ⟨k1, k2, k3, k4, k5⟩ := hok
  have hS := sp_CloneS fu d nm (by omega)
  have hL := strs_length nm
  have hC := cycs_length cy
  rw [eq_blacklist_copied, e2]
  simp (disch := omega) only [obs, rC_c, rA_agg, rT_tup, rP_ptr, rW_own, rS_sb, rF_sb, uncV_cons, uncO_cons, nilV_nil, rO_ob, rN_ob, unc_cons, asI_int, asB_bool, asS_string, asSl_sl, asSl_nl, asFn_fn, asP_cp, nrm_sl, nrm_nl, need_true, ct, cf, bd_eq, natD_zero, natD_succ, natD_one, noYl_v, noYl_sl, noYl_nl, noYl_cp, noYl_fn, Bool.and_true, Bool.true_and, Bool.and_self, beqN_self, Bool.not_true, Bool.not_false, Bool.and_false, Bool.false_and, Bool.or_false, Bool.false_or, Bool.or_true, Bool.true_or, wrap_in, dlt_t, dlt_f, dle_t, dle_f, dgt_t, dgt_f, dge_t, dge_f, ibeq_t, ibeq_f, ibne_t, ibne_f, inR_int, beqN_eq, bleN_le, hS, hL, Nat.mul_one, asSl_nrm e1]
  rw [iter_runx (fun j : Nat => (((j : Nat) : Int), (C.nl, C.nl, ()), (List.take j (cycs cy), strs nm, ()), ())) 0 ((cy.length : Int), (C.nl, C.nl, ()), (cycs cy, strs nm, ()), ()) cy.length ?_ ?_ ?_ (by omega)]
  · have t1 : List.take cy.length (cycs cy) = cycs cy := List.take_of_length_le (by omega)
    have t2 : List.take nm.length (strs nm) = strs nm := List.take_of_length_le (by omega)
    simp (disch := omega) only [obs, rC_c, rA_agg, rT_tup, rP_ptr, rW_own, rS_sb, rF_sb, uncV_cons, uncO_cons, nilV_nil, rO_ob, rN_ob, unc_cons, asI_int, asB_bool, asS_string, asSl_sl, asSl_nl, asFn_fn, asP_cp, nrm_sl, nrm_nl, need_true, ct, cf, bd_eq, natD_zero, natD_succ, natD_one, noYl_v, noYl_sl, noYl_nl, noYl_cp, noYl_fn, Bool.and_true, Bool.true_and, Bool.and_self, beqN_self, Bool.not_true, Bool.not_false, Bool.and_false, Bool.false_and, Bool.or_false, Bool.false_or, Bool.or_true, Bool.true_or, wrap_in, dlt_t, dlt_f, dle_t, dle_f, dgt_t, dgt_f, dge_t, dge_f, ibeq_t, ibeq_f, ibne_t, ibne_f, inR_int, beqN_eq, bleN_le, hL, hC, Nat.div_one, Nat.mul_one, t1, t2]
    rfl
  · rfl
  · intro j hj
    have hc := sp_CloneC fu d cy[j] (by have := (k2 cy[j] (List.getElem_mem hj)).1; omega)
    have hlt : (List.take j (cycs cy)).length = j := by rw [List.length_take]; omega
    have ht : List.take (j + 1) (cycs cy) = List.take j (cycs cy) ++ [cyC cy[j]] := by
      rw [List.take_succ_eq_append_getElem (show j < (cycs cy).length by omega)]; simp [cycs]
    rw [ht]
    simp (disch := omega) only [obs, rC_c, rA_agg, rT_tup, rP_ptr, rW_own, rS_sb, rF_sb, uncV_cons, uncO_cons, nilV_nil, rO_ob, rN_ob, unc_cons, asI_int, asB_bool, asS_string, asSl_sl, asSl_nl, asFn_fn, asP_cp, nrm_sl, nrm_nl, need_true, ct, cf, bd_eq, natD_zero, natD_succ, natD_one, noYl_v, noYl_sl, noYl_nl, noYl_cp, noYl_fn, Bool.and_true, Bool.true_and, Bool.and_self, beqN_self, Bool.not_true, Bool.not_false, Bool.and_false, Bool.false_and, Bool.or_false, Bool.false_or, Bool.or_true, Bool.true_or, wrap_in, dlt_t, dlt_f, dle_t, dle_f, dgt_t, dgt_f, dge_t, dge_f, ibeq_t, ibeq_f, ibne_t, ibne_f, inR_int, beqN_eq, bleN_le, Int.toNat_natCast, Nat.mul_one, cycs_drop cy hj, cyC, hc, hlt, hL, List.length_append, List.length_cons, List.length_nil, Nat.div_one, Nat.zero_add]
    rfl
  · have t1 : List.take cy.length (cycs cy) = cycs cy := List.take_of_length_le (by omega)
    simp (disch := omega) only [obs, rC_c, rA_agg, rT_tup, rP_ptr, rW_own, rS_sb, rF_sb, uncV_cons, uncO_cons, nilV_nil, rO_ob, rN_ob, unc_cons, asI_int, asB_bool, asS_string, asSl_sl, asSl_nl, asFn_fn, asP_cp, nrm_sl, nrm_nl, need_true, ct, cf, bd_eq, natD_zero, natD_succ, natD_one, noYl_v, noYl_sl, noYl_nl, noYl_cp, noYl_fn, Bool.and_true, Bool.true_and, Bool.and_self, beqN_self, Bool.not_true, Bool.not_false, Bool.and_false, Bool.false_and, Bool.or_false, Bool.false_or, Bool.or_true, Bool.true_or, wrap_in, dlt_t, dlt_f, dle_t, dle_f, dgt_t, dgt_f, dge_t, dge_f, ibeq_t, ibeq_f, ibne_t, ibne_f, inR_int, beqN_eq, bleN_le, hL, hC, t1, Nat.div_one, Nat.mul_one]

theorem sp_sums (cy : List (List Cnt)) (nm : List ByteArray) (hcy : cy.length ≤ 13) (hl : ∀ l ∈ cy, l.length ≤ 150 ∧ ∀ c ∈ l, cntOk c) (hn : nm.length ≤ 150) :
    cl fu (d + 1) fn_blacklist_sums [V.agg [C.sl cy.length (cycs cy), C.sl nm.length (strs nm)]] [] = some ⟨V.c (C.mp ty_string ty_api_Count none (some 3) ((sumsM cy nm).map ent)), [], none⟩ := by
  rw [eq_blacklist_sums]
  simp only [asSl_sl]
  rw [iter_runx (fun j : Nat => (((j : Nat) : Int), ((zeros (nm.take j)).map ent), ())) 0 ((nm.length : Int), ((zeros nm).map ent), ()) nm.length ?_ ?_ ?_ (by omega)]
  · simp only [obs]
    have hb : ∀ j, j ≤ cy.length → Bnd ((cy.take j).foldl addl (zeros nm)) (15000000 * j) := by
      intro j
      induction j with
      | zero => intro _; simpa using Bnd.zeros nm
      | succ j ih =>
        intro hj
        have hj' : j < cy.length := by omega
        rw [List.take_succ_eq_append_getElem hj', List.foldl_append]
        have h1 := hl cy[j] (List.getElem_mem hj')
        have h2 := Bnd.addl (ih (by omega)) h1.2
        intro s
        have := h2 s
        simp only [List.foldl_cons, List.foldl_nil]
        omega
    rw [iter_runx (fun j : Nat => (((j : Nat) : Int), (((cy.take j).foldl addl (zeros nm)).map ent), ())) 0 ((cy.length : Int), ((sumsM cy nm).map ent), ()) cy.length ?_ ?_ ?_ (by omega)]
    · rfl
    · rfl
    · intro j hj
      have hlj := hl cy[j] (List.getElem_mem hj)
      have hbj := hb j (by omega)
      have hnext : (cy.take (j + 1)).foldl addl (zeros nm) = addl ((cy.take j).foldl addl (zeros nm)) cy[j] := by
        rw [List.take_succ_eq_append_getElem hj, List.foldl_append]; rfl
      rw [hnext]
      generalize (cy.take j).foldl addl (zeros nm) = M at hbj ⊢
      simp (disch := omega) only [obs, rC_c, rA_agg, rT_tup, rP_ptr, rW_own, rS_sb, rF_sb, uncV_cons, uncO_cons, nilV_nil, rO_ob, rN_ob, unc_cons, asI_int, asB_bool, asS_string, asSl_sl, asSl_nl, asFn_fn, asP_cp, nrm_sl, nrm_nl, need_true, ct, cf, bd_eq, natD_zero, natD_succ, natD_one, noYl_v, noYl_sl, noYl_nl, noYl_cp, noYl_fn, Bool.and_true, Bool.true_and, Bool.and_self, beqN_self, Bool.not_true, Bool.not_false, Bool.and_false, Bool.false_and, Bool.or_false, Bool.false_or, Bool.or_true, Bool.true_or, wrap_in, dlt_t, dlt_f, dle_t, dle_f, dgt_t, dgt_f, dge_t, dge_f, ibeq_t, ibeq_f, ibne_t, ibne_f, inR_int, beqN_eq, bleN_le, Int.toNat_natCast, Nat.mul_one, cycs_drop cy hj, cyC]
      generalize cy[j] = l at hlj ⊢
      obtain ⟨hl1, hl2⟩ := hlj
      rw [iter_runx (fun i : Nat => (((i : Nat) : Int), ((addl M (l.take i)).map ent), ())) 0 ((l.length : Int), ((addl M l).map ent), ()) l.length ?_ ?_ ?_ (by omega)]
      · rfl
      · rfl
      · intro i hi
        have hbi := Bnd.addl (l := l.take i) hbj fun c hc => hl2 c (List.mem_of_mem_take hc)
        have hnx : addl M (l.take (i + 1)) = addc (addl M (l.take i)) l[i] := by
          unfold addl
          rw [List.take_succ_eq_append_getElem hi, List.foldl_append]; rfl
        have hci := hl2 l[i] (List.getElem_mem hi)
        rw [hnx]
        generalize addl M (l.take i) = M' at hbi ⊢
        have hv := hbi l[i].nm
        obtain ⟨_, hc1, hc2⟩ := hci
        have hti : (List.take i l).length = i := by rw [List.length_take]; omega
        rw [hti] at hv
        unfold addc
        rw [← mput_ent]
        simp (disch := omega) only [obs, rC_c, rA_agg, rT_tup, rP_ptr, rW_own, rS_sb, rF_sb, uncV_cons, uncO_cons, nilV_nil, rO_ob, rN_ob, unc_cons, asI_int, asB_bool, asS_string, asSl_sl, asSl_nl, asFn_fn, asP_cp, nrm_sl, nrm_nl, need_true, ct, cf, bd_eq, natD_zero, natD_succ, natD_one, noYl_v, noYl_sl, noYl_nl, noYl_cp, noYl_fn, Bool.and_true, Bool.true_and, Bool.and_self, beqN_self, Bool.not_true, Bool.not_false, Bool.and_false, Bool.false_and, Bool.or_false, Bool.false_or, Bool.or_true, Bool.true_or, wrap_in, dlt_t, dlt_f, dle_t, dle_f, dgt_t, dgt_f, dge_t, dge_f, ibeq_t, ibeq_f, ibne_t, ibne_f, inR_int, beqN_eq, bleN_le, Int.toNat_natCast, fl_at cc_length hi, cc, List.cons_append, mfd_ent, orZ_ent]
        unfold valC
        simp (disch := omega) only [obs, rC_c, rA_agg, rT_tup, rP_ptr, rW_own, rS_sb, rF_sb, uncV_cons, uncO_cons, nilV_nil, rO_ob, rN_ob, unc_cons, asI_int, asB_bool, asS_string, asSl_sl, asSl_nl, asFn_fn, asP_cp, nrm_sl, nrm_nl, need_true, ct, cf, bd_eq, natD_zero, natD_succ, natD_one, noYl_v, noYl_sl, noYl_nl, noYl_cp, noYl_fn, Bool.and_true, Bool.true_and, Bool.and_self, beqN_self, Bool.not_true, Bool.not_false, Bool.and_false, Bool.false_and, Bool.or_false, Bool.false_or, Bool.or_true, Bool.true_or, wrap_in, dlt_t, dlt_f, dle_t, dle_f, dgt_t, dgt_f, dge_t, dge_f, ibeq_t, ibeq_f, ibne_t, ibne_f, inR_int, beqN_eq, bleN_le]
        rfl
      · rw [List.take_length]
        simp (disch := omega) only [obs, rC_c, rA_agg, rT_tup, rP_ptr, rW_own, rS_sb, rF_sb, uncV_cons, uncO_cons, nilV_nil, rO_ob, rN_ob, unc_cons, asI_int, asB_bool, asS_string, asSl_sl, asSl_nl, asFn_fn, asP_cp, nrm_sl, nrm_nl, need_true, ct, cf, bd_eq, natD_zero, natD_succ, natD_one, noYl_v, noYl_sl, noYl_nl, noYl_cp, noYl_fn, Bool.and_true, Bool.true_and, Bool.and_self, beqN_self, Bool.not_true, Bool.not_false, Bool.and_false, Bool.false_and, Bool.or_false, Bool.false_or, Bool.or_true, Bool.true_or, wrap_in, dlt_t, dlt_f, dle_t, dle_f, dgt_t, dgt_f, dge_t, dge_f, ibeq_t, ibeq_f, ibne_t, ibne_f, inR_int, beqN_eq, bleN_le]
    · rw [List.take_length]
      simp (disch := omega) only [obs, rC_c, rA_agg, rT_tup, rP_ptr, rW_own, rS_sb, rF_sb, uncV_cons, uncO_cons, nilV_nil, rO_ob, rN_ob, unc_cons, asI_int, asB_bool, asS_string, asSl_sl, asSl_nl, asFn_fn, asP_cp, nrm_sl, nrm_nl, need_true, ct, cf, bd_eq, natD_zero, natD_succ, natD_one, noYl_v, noYl_sl, noYl_nl, noYl_cp, noYl_fn, Bool.and_true, Bool.true_and, Bool.and_self, beqN_self, Bool.not_true, Bool.not_false, Bool.and_false, Bool.false_and, Bool.or_false, Bool.false_or, Bool.or_true, Bool.true_or, wrap_in, dlt_t, dlt_f, dle_t, dle_f, dgt_t, dgt_f, dge_t, dge_f, ibeq_t, ibeq_f, ibne_t, ibne_f, inR_int, beqN_eq, bleN_le]
      rfl
  · rfl
  · intro j hj
    have ht : zeros (nm.take (j + 1)) = upd (zeros (nm.take j)) nm[j] (0, 0) := by
      unfold zeros
      rw [List.take_succ_eq_append_getElem hj, List.foldl_append]; rfl
    rw [ht, ← mput_ent]
    rw [strs_fl]
    simp (disch := omega) only [obs, rC_c, rA_agg, rT_tup, rP_ptr, rW_own, rS_sb, rF_sb, uncV_cons, uncO_cons, nilV_nil, rO_ob, rN_ob, unc_cons, asI_int, asB_bool, asS_string, asSl_sl, asSl_nl, asFn_fn, asP_cp, nrm_sl, nrm_nl, need_true, ct, cf, bd_eq, natD_zero, natD_succ, natD_one, noYl_v, noYl_sl, noYl_nl, noYl_cp, noYl_fn, Bool.and_true, Bool.true_and, Bool.and_self, beqN_self, Bool.not_true, Bool.not_false, Bool.and_false, Bool.false_and, Bool.or_false, Bool.false_or, Bool.or_true, Bool.true_or, wrap_in, dlt_t, dlt_f, dle_t, dle_f, dgt_t, dgt_f, dge_t, dge_f, ibeq_t, ibeq_f, ibne_t, ibne_f, inR_int, beqN_eq, bleN_le, Int.toNat_natCast, fl_at sc_length hj, sc, List.cons_append, mfd_ent, valC]
    rfl
  · rw [List.take_length]
    simp (disch := omega) only [obs, rC_c, rA_agg, rT_tup, rP_ptr, rW_own, rS_sb, rF_sb, uncV_cons, uncO_cons, nilV_nil, rO_ob, rN_ob, unc_cons, asI_int, asB_bool, asS_string, asSl_sl, asSl_nl, asFn_fn, asP_cp, nrm_sl, nrm_nl, need_true, ct, cf, bd_eq, natD_zero, natD_succ, natD_one, noYl_v, noYl_sl, noYl_nl, noYl_cp, noYl_fn, Bool.and_true, Bool.true_and, Bool.and_self, beqN_self, Bool.not_true, Bool.not_false, Bool.and_false, Bool.false_and, Bool.or_false, Bool.false_or, Bool.or_true, Bool.true_or, wrap_in, dlt_t, dlt_f, dle_t, dle_f, dgt_t, dgt_f, dge_t, dge_f, ibeq_t, ibeq_f, ibne_t, ibne_f, inR_int, beqN_eq, bleN_le]
end
end Go.Proofs.Ytofalpngdbinbaa
/- Push at valid histories. -/
namespace Go.Proofs.Ytofalpngdbinbaa
open Go Go.PM

theorem asMp_mp {R : Type} (kt et : TypeId) (es : List (List C × List C)) (k : List (List C × List C) → Option R) : asMp (C.mp kt et none (some 3) es) kt et none (some 3) k = k es := by
  simp [asMp, need, sameO]
theorem noYl_mp (kt et : TypeId) (ka va : Option Nat) (es : List (List C × List C)) : noYl [V.c (C.mp kt et ka va es)] = true := rfl

/-- The cycles that are kept. -/
def kept (cy : List (List Cnt)) (l : List Cnt) : List (List Cnt) := if 12 < cy.length + 1 then (cy ++ [l]).drop 1 else cy ++ [l]
/-- Which names are listed. -/
def cond (nm : List ByteArray) (lv en : Int) (M : List Ent) (s : ByteArray) : Bool :=
  if hasS nm s then decide ((val M s).1 = 0) || decide (lv * (val M s).1 ≤ 100 * (val M s).2) else decide (5 ≤ (val M s).1) && decide (en * (val M s).1 ≤ 100 * (val M s).2)
def listed (nm : List ByteArray) (lv en : Int) (M : List Ent) : List ByteArray := (sortB (keys M)).filter (cond nm lv en M)

theorem kept_all {P : List Cnt → Prop} {cy : List (List Cnt)} {l : List Cnt} (h : ∀ x ∈ cy, P x) (hl : P l) : ∀ x ∈ kept cy l, P x := by
  intro x hx
  have : x ∈ cy ++ [l] := by
    unfold kept at hx
    split at hx
    · exact List.mem_of_mem_drop hx
    · exact hx
  rcases List.mem_append.1 this with h' | h'
  · exact h x h'
  · simp at h'; subst h'; exact hl
theorem kept_length {cy : List (List Cnt)} {l : List Cnt} (h : cy.length ≤ 12) : (kept cy l).length ≤ 12 := by
  unfold kept
  split <;> simp <;> omega

theorem nodup_addl : ∀ (l : List Cnt) (M : List Ent), (keys M).Nodup → (keys (addl M l)).Nodup
  | [], M, h => h
  | c :: l, M, h => nodup_addl l _ (nodup_upd h _ _)
theorem nodup_sums (cy : List (List Cnt)) (nm : List ByteArray) : (keys (sumsM cy nm)).Nodup := by
  have h0 : ∀ (nm : List ByteArray) (M : List Ent), (keys M).Nodup → (keys (nm.foldl (fun M s => upd M s (0, 0)) M)).Nodup := by
    intro nm
    induction nm with
    | nil => intro M h; exact h
    | cons a nm ih => intro M h; exact ih _ (nodup_upd h _ _)
  have h1 : ∀ (cy : List (List Cnt)) (M : List Ent), (keys M).Nodup → (keys (cy.foldl addl M)).Nodup := by
    intro cy
    induction cy with
    | nil => intro M h; exact h
    | cons a cy ih => intro M h; exact ih _ (nodup_addl a M h)
  exact h1 cy _ (h0 nm [] List.nodup_nil)
theorem mem_addl (s : ByteArray) : ∀ (l : List Cnt) (M : List Ent), s ∈ keys (addl M l) ↔ s ∈ l.map Cnt.nm ∨ s ∈ keys M
  | [], M => by simp [addl]
  | c :: l, M => by
    have := mem_addl s l (addc M c)
    unfold addl at this ⊢
    rw [List.foldl_cons, this]
    unfold addc
    rw [mem_upd, List.map_cons, List.mem_cons]
    constructor
    · rintro (h | h | h)
      · exact .inl (.inr h)
      · exact .inl (.inl h)
      · exact .inr h
    · rintro ((h | h) | h)
      · exact .inr (.inl h)
      · exact .inl h
      · exact .inr (.inr h)
theorem mem_sums (s : ByteArray) (cy : List (List Cnt)) (nm : List ByteArray) : s ∈ keys (sumsM cy nm) ↔ s ∈ nm ∨ ∃ l ∈ cy, s ∈ l.map Cnt.nm := by
  have h0 : ∀ (nm : List ByteArray) (M : List Ent), s ∈ keys (nm.foldl (fun M s => upd M s (0, 0)) M) ↔ s ∈ nm ∨ s ∈ keys M := by
    intro nm
    induction nm with
    | nil => intro M; simp
    | cons a nm ih =>
      intro M
      rw [List.foldl_cons, ih, mem_upd, List.mem_cons]
      constructor
      · rintro (h | h | h)
        · exact .inl (.inr h)
        · exact .inl (.inl h)
        · exact .inr h
      · rintro ((h | h) | h)
        · exact .inr (.inl h)
        · exact .inl h
        · exact .inr (.inr h)
  have h1 : ∀ (cy : List (List Cnt)) (M : List Ent), s ∈ keys (cy.foldl addl M) ↔ (∃ l ∈ cy, s ∈ l.map Cnt.nm) ∨ s ∈ keys M := by
    intro cy
    induction cy with
    | nil => intro M; simp
    | cons a cy ih =>
      intro M
      rw [List.foldl_cons, ih, mem_addl]
      constructor
      · rintro (⟨l, h1, h2⟩ | h | h)
        · exact .inl ⟨l, by simp [h1], h2⟩
        · exact .inl ⟨a, by simp, h⟩
        · exact .inr h
      · rintro (⟨l, h1, h2⟩ | h)
        · rcases List.mem_cons.1 h1 with rfl | h1
          · exact .inr (.inl h2)
          · exact .inl ⟨l, h1, h2⟩
        · exact .inr (.inr h)
  unfold sumsM
  rw [h1, zeros, h0]
  simp [keys, or_comm]
theorem bnd_sums (cy : List (List Cnt)) (nm : List ByteArray) (hcy : cy.length ≤ 13) (hl : ∀ l ∈ cy, l.length ≤ 150 ∧ ∀ c ∈ l, cntOk c) : Bnd (sumsM cy nm) 195000000 := by
  have key : ∀ (cy : List (List Cnt)) (M : List Ent) (b : Int), Bnd M b → (∀ l ∈ cy, l.length ≤ 150 ∧ ∀ c ∈ l, cntOk c) → Bnd (cy.foldl addl M) (b + 15000000 * cy.length) := by
    intro cy
    induction cy with
    | nil => intro M b h _; simpa using h
    | cons a cy ih =>
      intro M b h hl
      have h1 := hl a (by simp)
      have h2 := ih _ _ (Bnd.addl h h1.2) fun l h' => hl l (by simp [h'])
      intro s
      have := h2 s
      simp only [List.foldl_cons, List.length_cons]
      omega
  intro s
  have := key cy _ 0 (Bnd.zeros nm) hl s
  unfold sumsM
  omega

theorem filter_succ (p : ByteArray → Bool) (ks : List ByteArray) {j : Nat} (hj : j < ks.length) : (ks.take (j + 1)).filter p = bif p ks[j] then (ks.take j).filter p ++ [ks[j]] else (ks.take j).filter p := by
  rw [List.take_succ_eq_append_getElem hj, List.filter_append]
  cases h : p ks[j] <;> simp [h]
theorem strs_snoc (l : List ByteArray) (s : ByteArray) : strs l ++ [C.v (.string s)] = strs (l ++ [s]) := by simp [strs]

section
variable (fu d : Nat)
theorem sp_percent {n : Int} (h : 1 ≤ n ∧ n ≤ 100) : cl fu (d + 1) fn_blacklist_percent [I n] [] = some ⟨B true, [], none⟩ := by
  rw [eq_blacklist_percent]
  simp (disch := omega) only [obs, rC_c, rA_agg, rT_tup, rP_ptr, rW_own, rS_sb, rF_sb, uncV_cons, uncO_cons, nilV_nil, rO_ob, rN_ob, unc_cons, asI_int, asB_bool, asS_string, asSl_sl, asSl_nl, asFn_fn, asP_cp, nrm_sl, nrm_nl, need_true, ct, cf, bd_eq, natD_zero, natD_succ, natD_one, noYl_v, noYl_sl, noYl_nl, noYl_cp, noYl_fn, Bool.and_true, Bool.true_and, Bool.and_self, beqN_self, Bool.not_true, Bool.not_false, Bool.and_false, Bool.false_and, Bool.or_false, Bool.false_or, Bool.or_true, Bool.true_or, wrap_in, dlt_t, dlt_f, dle_t, dle_f, dgt_t, dgt_f, dge_t, dge_f, ibeq_t, ibeq_f, ibne_t, ibne_f, inR_int, beqN_eq, bleN_le]
end
end Go.Proofs.Ytofalpngdbinbaa
/- Push at valid histories: what it answers. -/
namespace Go.Proofs.Ytofalpngdbinbaa
open Go Go.PM

theorem rG_mag {R : Type} (xs : List V) (k : List V → Option R) : rG (.mag xs) k = k xs := id rfl
theorem rW_own1 {R : Type} (n : Nat) (k : Nat → Option R) : rW (.own 1000001 0 n) 1 k = k n := id rfl

theorem out0 : Nat.beq 1000000 (OUT + 0) = true := rfl
theorem out1 : Nat.beq 1000001 (OUT + 1) = true := rfl

theorem strs_drop (l : List ByteArray) {j : Nat} (hj : j < l.length) : List.drop j (strs l) = C.v (.string l[j]) :: List.drop (j + 1) (strs l) := by
  rw [List.drop_eq_getElem_cons (show j < (strs l).length by simpa [strs] using hj)]; simp [strs]

theorem histOk_one {l : List Cnt} (h : cycleOk l) : histOk [l] [] := ⟨by simp, by simpa using h, by simp, by simp, fun j a b h => by simp at h⟩

section
variable (fu d : Nat) (hf : 18446744073709551616 ≤ fu)
include hf
set_option maxHeartbeats 1000000 in
theorem sp_Push {h1 h2 : C} {cy : List (List Cnt)} {nm : List ByteArray} (e1 : nrm h1 = .sl cy.length (cycs cy)) (e2 : nrm h2 = .sl nm.length (strs nm)) (hok : histOk cy nm)
    {l : List Cnt} (hl : cycleOk l) {a2 : List C} {lv en : Int} {r40 r39 : List C} (hk40 : List.drop 40 a2 = C.v (.int .i64 lv) :: r40) (hk39 : List.drop 39 a2 = C.v (.int .i64 en) :: r39) (hlv : 1 ≤ lv ∧ lv ≤ en ∧ en ≤ 100)
    (hkeys : (keys (sumsM (kept cy l) nm)).length ≤ 150) :
    cl fu (d + 14) fn_blacklist_Push [V.agg [h1, h2], V.c (cyC l), V.agg a2] [] =
      some ⟨V.tup [V.agg [C.sl (kept cy l).length (cycs (kept cy l)), C.sl (listed nm lv en (sumsM (kept cy l) nm)).length (strs (listed nm lv en (sumsM (kept cy l) nm)))], I 0], [], none⟩ := by
  have hV1 := sp_Validate fu (d + 1) hf e1 e2 hok
  have hV2 := sp_Validate fu (d + 1) hf (h1 := C.sl 1 [C.sl l.length (fl cc l)]) (h2 := C.nl) (cy := [l]) (nm := []) rfl rfl (histOk_one hl)
  have hp1 := sp_percent fu (d + 12) (n := lv) (by omega)
  have hp2 := sp_percent fu (d + 12) (n := en) (by omega)
  have hcp := sp_copied fu (d + 11) hf e1 e2 hok
  have hcl := sp_CloneC fu (d + 12) l (by have := hl.1; omega)
  obtain ⟨k1, k2, k3, k4, k5⟩ := hok
  have hkl := kept_length (l := l) k1
  have hall := kept_all (P := fun l => l.length ≤ 150 ∧ ∀ c ∈ l, cntOk c) (fun x hx => ⟨(k2 x hx).1, (k2 x hx).2.1⟩) (l := l) ⟨hl.1, hl.2.1⟩
  have hsums := sp_sums fu (d + 12) hf (kept cy l) nm (by omega) hall k3
  have hbnd := bnd_sums (kept cy l) nm (by omega) hall
  have hok2 : okKeys (keys (sumsM (kept cy l) nm)) := by
    have hm : (150 : Nat) ≤ maxLen := by decide
    refine ⟨nodup_sums _ _, fun s hs => ?_, Nat.le_trans hkeys hm, by omega⟩
    have h5 : nameOk s := by
      rcases (mem_sums s _ _).1 hs with h | ⟨x, hx, h⟩
      · exact k4 s h
      · obtain ⟨c, hc, rfl⟩ := List.mem_map.1 h
        exact ((hall x hx).2 c hc).1
    rw [h5.1]; decide
  have hso := pr_sorted fu (d + 12) ty_string ty_api_Count (some 3) ((sumsM (kept cy l) nm).map ent) _ (unKeys_ent _) hok2
  have hsl : (sortB (keys (sumsM (kept cy l) nm))).length = (keys (sumsM (kept cy l) nm)).length := sortB_length _
  rw [← hsl] at hso hkeys
  unfold listed
  have hC := cycs_length cy
  have hL := strs_length nm
  have tL : List.take nm.length (strs nm) = strs nm := List.take_of_length_le (by omega)
  have hcc : cycs cy ++ [C.sl l.length (fl cc l)] = cycs (cy ++ [l]) := by simp [cycs, cyC]
  unfold cyC
  rw [eq_blacklist_Push]
  simp (disch := omega) only [obs, rC_c, rA_agg, rT_tup, rP_ptr, rW_own, rS_sb, rF_sb, uncV_cons, uncO_cons, nilV_nil, rO_ob, rN_ob, unc_cons, asI_int, asB_bool, asS_string, asSl_sl, asSl_nl, asFn_fn, asP_cp, nrm_sl, nrm_nl, need_true, ct, cf, bd_eq, natD_zero, natD_succ, natD_one, noYl_v, noYl_sl, noYl_nl, noYl_cp, noYl_fn, Bool.and_true, Bool.true_and, Bool.and_self, beqN_self, Bool.not_true, Bool.not_false, Bool.and_false, Bool.false_and, Bool.or_false, Bool.false_or, Bool.or_true, Bool.true_or, wrap_in, dlt_t, dlt_f, dle_t, dle_f, dgt_t, dgt_f, dge_t, dge_f, ibeq_t, ibeq_f, ibne_t, ibne_f, inR_int, beqN_eq, bleN_le, hV1, hV2, hp1, hp2, hk40, hk39, hcp, hcl, rG_mag, out0, out1, hC, hL, Nat.mul_one, hcc, Nat.add_sub_cancel]
  by_cases h12 : 12 < cy.length + 1
  · have hkp : kept cy l = (cy ++ [l]).drop 1 := by unfold kept; rw [if_pos h12]
    have hkn : ((cy ++ [l]).drop 1).length = cy.length := by simp
    have tC : List.take cy.length (List.drop 1 (cycs (cy ++ [l]))) = cycs ((cy ++ [l]).drop 1) := by
      rw [show List.drop 1 (cycs (cy ++ [l])) = cycs ((cy ++ [l]).drop 1) by simp [cycs]]
      exact List.take_of_length_le (by rw [cycs_length]; omega)
    rw [hkp] at hsums hso hkeys hbnd hok2 hsl hall hkl ⊢
    rw [hkn] at hsums
    simp (disch := omega) only [obs, rC_c, rA_agg, rT_tup, rP_ptr, rW_own, rS_sb, rF_sb, uncV_cons, uncO_cons, nilV_nil, rO_ob, rN_ob, unc_cons, asI_int, asB_bool, asS_string, asSl_sl, asSl_nl, asFn_fn, asP_cp, nrm_sl, nrm_nl, need_true, ct, cf, bd_eq, natD_zero, natD_succ, natD_one, noYl_v, noYl_sl, noYl_nl, noYl_cp, noYl_fn, Bool.and_true, Bool.true_and, Bool.and_self, beqN_self, Bool.not_true, Bool.not_false, Bool.and_false, Bool.false_and, Bool.or_false, Bool.false_or, Bool.or_true, Bool.true_or, wrap_in, dlt_t, dlt_f, dle_t, dle_f, dgt_t, dgt_f, dge_t, dge_f, ibeq_t, ibeq_f, ibne_t, ibne_f, inR_int, beqN_eq, bleN_le, cycs_length, List.length_append, List.length_cons, List.length_nil, Nat.zero_add, tC, tL, hL, hsums, noYl_mp, pr_keys, hso]
    generalize sumsM ((cy ++ [l]).drop 1) nm = M at *
    generalize hks : sortB (keys M) = ks at *
    rw [show C.sl cy.length (cycs ((cy ++ [l]).drop 1)) = C.sl ((cy ++ [l]).drop 1).length (cycs ((cy ++ [l]).drop 1)) by rw [hkn]]
    rw [iter_runx (fun j : Nat => (((j : Nat) : Int), (C.nl, C.nl, ()), (C.sl ((cy ++ [l]).drop 1).length (cycs ((cy ++ [l]).drop 1)), strs ((ks.take j).filter (cond nm lv en M)), ()), ())) 0 ((ks.length : Int), (C.nl, C.nl, ()), (C.sl ((cy ++ [l]).drop 1).length (cycs ((cy ++ [l]).drop 1)), strs (ks.filter (cond nm lv en M)), ()), ()) ks.length ?_ ?_ ?_ (by omega)]
    · have hfl : (ks.filter (cond nm lv en M)).length ≤ 150 := Nat.le_trans (List.length_filter_le _ _) hkeys
      have t1 : List.take (ks.filter (cond nm lv en M)).length (strs (ks.filter (cond nm lv en M))) = strs (ks.filter (cond nm lv en M)) := List.take_of_length_le (by rw [strs_length]; omega)
      simp (disch := omega) only [obs, rC_c, rA_agg, rT_tup, rP_ptr, rW_own, rS_sb, rF_sb, uncV_cons, uncO_cons, nilV_nil, rO_ob, rN_ob, unc_cons, asI_int, asB_bool, asS_string, asSl_sl, asSl_nl, asFn_fn, asP_cp, nrm_sl, nrm_nl, need_true, ct, cf, bd_eq, natD_zero, natD_succ, natD_one, noYl_v, noYl_sl, noYl_nl, noYl_cp, noYl_fn, Bool.and_true, Bool.true_and, Bool.and_self, beqN_self, Bool.not_true, Bool.not_false, Bool.and_false, Bool.false_and, Bool.or_false, Bool.false_or, Bool.or_true, Bool.true_or, wrap_in, dlt_t, dlt_f, dle_t, dle_f, dgt_t, dgt_f, dge_t, dge_f, ibeq_t, ibeq_f, ibne_t, ibne_f, inR_int, beqN_eq, bleN_le, strs_length, Nat.div_one, Nat.mul_one, Nat.zero_add, t1]
    · rfl
    · intro j hj
      have hlen : ((ks.take j).filter (cond nm lv en M)).length ≤ 150 := Nat.le_trans (List.length_filter_le _ _) (by rw [List.length_take]; omega)
      have hcon := sp_Contains fu (d + 11) hf nm ks[j] (by omega)
      have hv := hbnd ks[j]
      have p1 : 0 ≤ lv * (val M ks[j]).1 ∧ lv * (val M ks[j]).1 ≤ 100 * 195000000 := ⟨Int.mul_nonneg (by omega) (by omega), Int.mul_le_mul (by omega) (by omega) (by omega) (by omega)⟩
      have p2 : 0 ≤ en * (val M ks[j]).1 ∧ en * (val M ks[j]).1 ≤ 100 * 195000000 := ⟨Int.mul_nonneg (by omega) (by omega), Int.mul_le_mul (by omega) (by omega) (by omega) (by omega)⟩
      rw [filter_succ _ ks hj]
      have hcd : cond nm lv en M ks[j] = if hasS nm ks[j] then decide ((val M ks[j]).1 = 0) || decide (lv * (val M ks[j]).1 ≤ 100 * (val M ks[j]).2) else decide (5 ≤ (val M ks[j]).1) && decide (en * (val M ks[j]).1 ≤ 100 * (val M ks[j]).2) := rfl
      rw [hcd]
      generalize (ks.take j).filter (cond nm lv en M) = F at hlen ⊢
      simp (disch := omega) only [obs, rC_c, rA_agg, rT_tup, rP_ptr, rW_own, rS_sb, rF_sb, uncV_cons, uncO_cons, nilV_nil, rO_ob, rN_ob, unc_cons, asI_int, asB_bool, asS_string, asSl_sl, asSl_nl, asFn_fn, asP_cp, nrm_sl, nrm_nl, need_true, ct, cf, bd_eq, natD_zero, natD_succ, natD_one, noYl_v, noYl_sl, noYl_nl, noYl_cp, noYl_fn, Bool.and_true, Bool.true_and, Bool.and_self, beqN_self, Bool.not_true, Bool.not_false, Bool.and_false, Bool.false_and, Bool.or_false, Bool.false_or, Bool.or_true, Bool.true_or, wrap_in, dlt_t, dlt_f, dle_t, dle_f, dgt_t, dgt_f, dge_t, dge_f, ibeq_t, ibeq_f, ibne_t, ibne_f, inR_int, beqN_eq, bleN_le, Int.toNat_natCast, strs_drop ks hj, asMp_mp, mfd_ent, orZ_ent, e2, hcon]
      unfold valC
      generalize ks[j] = s at *
      generalize val M s = q at *
      obtain ⟨T, R⟩ := q
      dsimp only at hv p1 p2 ⊢
      have hw1 : IntKind.i64.wrap (lv * T) = lv * T := IntWalk.i64_in _ ⟨by generalize lv * T = z at *; omega, by generalize lv * T = z at *; omega⟩
      have hw2 : IntKind.i64.wrap (en * T) = en * T := IntWalk.i64_in _ ⟨by generalize en * T = z at *; omega, by generalize en * T = z at *; omega⟩
      cases hasS nm s with
      | true =>
        by_cases hT : T = 0
        · subst hT
          simp (disch := omega) only [obs, rC_c, rA_agg, rT_tup, rP_ptr, rW_own, rS_sb, rF_sb, uncV_cons, uncO_cons, nilV_nil, rO_ob, rN_ob, unc_cons, asI_int, asB_bool, asS_string, asSl_sl, asSl_nl, asFn_fn, asP_cp, nrm_sl, nrm_nl, need_true, ct, cf, bd_eq, natD_zero, natD_succ, natD_one, noYl_v, noYl_sl, noYl_nl, noYl_cp, noYl_fn, Bool.and_true, Bool.true_and, Bool.and_self, beqN_self, Bool.not_true, Bool.not_false, Bool.and_false, Bool.false_and, Bool.or_false, Bool.false_or, Bool.or_true, Bool.true_or, wrap_in, dlt_t, dlt_f, dle_t, dle_f, dgt_t, dgt_f, dge_t, dge_f, ibeq_t, ibeq_f, ibne_t, ibne_f, inR_int, beqN_eq, bleN_le, strs_length, Nat.div_one, Nat.mul_one, Nat.zero_add, List.length_append, List.length_cons, List.length_nil, strs_snoc, if_true, decide_true]
          rfl
        · by_cases hR : lv * T ≤ 100 * R
          · simp (disch := omega) only [obs, rC_c, rA_agg, rT_tup, rP_ptr, rW_own, rS_sb, rF_sb, uncV_cons, uncO_cons, nilV_nil, rO_ob, rN_ob, unc_cons, asI_int, asB_bool, asS_string, asSl_sl, asSl_nl, asFn_fn, asP_cp, nrm_sl, nrm_nl, need_true, ct, cf, bd_eq, natD_zero, natD_succ, natD_one, noYl_v, noYl_sl, noYl_nl, noYl_cp, noYl_fn, Bool.and_true, Bool.true_and, Bool.and_self, beqN_self, Bool.not_true, Bool.not_false, Bool.and_false, Bool.false_and, Bool.or_false, Bool.false_or, Bool.or_true, Bool.true_or, wrap_in, dlt_t, dlt_f, dle_t, dle_f, dgt_t, dgt_f, dge_t, dge_f, ibeq_t, ibeq_f, ibne_t, ibne_f, inR_int, beqN_eq, bleN_le, hk40, hw1, ge_iff_le, strs_length, Nat.div_one, Nat.mul_one, Nat.zero_add, List.length_append, List.length_cons, List.length_nil, strs_snoc, if_true, decide_eq_true hR]
            rfl
          · simp (disch := omega) only [obs, rC_c, rA_agg, rT_tup, rP_ptr, rW_own, rS_sb, rF_sb, uncV_cons, uncO_cons, nilV_nil, rO_ob, rN_ob, unc_cons, asI_int, asB_bool, asS_string, asSl_sl, asSl_nl, asFn_fn, asP_cp, nrm_sl, nrm_nl, need_true, ct, cf, bd_eq, natD_zero, natD_succ, natD_one, noYl_v, noYl_sl, noYl_nl, noYl_cp, noYl_fn, Bool.and_true, Bool.true_and, Bool.and_self, beqN_self, Bool.not_true, Bool.not_false, Bool.and_false, Bool.false_and, Bool.or_false, Bool.false_or, Bool.or_true, Bool.true_or, wrap_in, dlt_t, dlt_f, dle_t, dle_f, dgt_t, dgt_f, dge_t, dge_f, ibeq_t, ibeq_f, ibne_t, ibne_f, inR_int, beqN_eq, bleN_le, hk40, hw1, ge_iff_le, strs_length, Nat.div_one, Nat.mul_one, Nat.zero_add, if_true, decide_eq_false hT, decide_eq_false hR]
            rfl
      | false =>
        by_cases hT : 5 ≤ T
        · by_cases hR : en * T ≤ 100 * R
          · simp (disch := omega) only [obs, rC_c, rA_agg, rT_tup, rP_ptr, rW_own, rS_sb, rF_sb, uncV_cons, uncO_cons, nilV_nil, rO_ob, rN_ob, unc_cons, asI_int, asB_bool, asS_string, asSl_sl, asSl_nl, asFn_fn, asP_cp, nrm_sl, nrm_nl, need_true, ct, cf, bd_eq, natD_zero, natD_succ, natD_one, noYl_v, noYl_sl, noYl_nl, noYl_cp, noYl_fn, Bool.and_true, Bool.true_and, Bool.and_self, beqN_self, Bool.not_true, Bool.not_false, Bool.and_false, Bool.false_and, Bool.or_false, Bool.false_or, Bool.or_true, Bool.true_or, wrap_in, dlt_t, dlt_f, dle_t, dle_f, dgt_t, dgt_f, dge_t, dge_f, ibeq_t, ibeq_f, ibne_t, ibne_f, inR_int, beqN_eq, bleN_le, hk39, hw2, ge_iff_le, strs_length, Nat.div_one, Nat.mul_one, Nat.zero_add, List.length_append, List.length_cons, List.length_nil, strs_snoc, decide_eq_true hT, decide_eq_true hR, Bool.false_eq_true, if_false]
            rfl
          · simp (disch := omega) only [obs, rC_c, rA_agg, rT_tup, rP_ptr, rW_own, rS_sb, rF_sb, uncV_cons, uncO_cons, nilV_nil, rO_ob, rN_ob, unc_cons, asI_int, asB_bool, asS_string, asSl_sl, asSl_nl, asFn_fn, asP_cp, nrm_sl, nrm_nl, need_true, ct, cf, bd_eq, natD_zero, natD_succ, natD_one, noYl_v, noYl_sl, noYl_nl, noYl_cp, noYl_fn, Bool.and_true, Bool.true_and, Bool.and_self, beqN_self, Bool.not_true, Bool.not_false, Bool.and_false, Bool.false_and, Bool.or_false, Bool.false_or, Bool.or_true, Bool.true_or, wrap_in, dlt_t, dlt_f, dle_t, dle_f, dgt_t, dgt_f, dge_t, dge_f, ibeq_t, ibeq_f, ibne_t, ibne_f, inR_int, beqN_eq, bleN_le, hk39, hw2, ge_iff_le, strs_length, Nat.div_one, Nat.mul_one, Nat.zero_add, decide_eq_true hT, decide_eq_false hR, Bool.false_eq_true, if_false]
            rfl
        · simp (disch := omega) only [obs, rC_c, rA_agg, rT_tup, rP_ptr, rW_own, rS_sb, rF_sb, uncV_cons, uncO_cons, nilV_nil, rO_ob, rN_ob, unc_cons, asI_int, asB_bool, asS_string, asSl_sl, asSl_nl, asFn_fn, asP_cp, nrm_sl, nrm_nl, need_true, ct, cf, bd_eq, natD_zero, natD_succ, natD_one, noYl_v, noYl_sl, noYl_nl, noYl_cp, noYl_fn, Bool.and_true, Bool.true_and, Bool.and_self, beqN_self, Bool.not_true, Bool.not_false, Bool.and_false, Bool.false_and, Bool.or_false, Bool.false_or, Bool.or_true, Bool.true_or, wrap_in, dlt_t, dlt_f, dle_t, dle_f, dgt_t, dgt_f, dge_t, dge_f, ibeq_t, ibeq_f, ibne_t, ibne_f, inR_int, beqN_eq, bleN_le, strs_length, Nat.div_one, Nat.mul_one, Nat.zero_add, decide_eq_false hT, Bool.false_eq_true, if_false]
          rfl
    · rw [List.take_length]
      simp (disch := omega) only [obs, rC_c, rA_agg, rT_tup, rP_ptr, rW_own, rS_sb, rF_sb, uncV_cons, uncO_cons, nilV_nil, rO_ob, rN_ob, unc_cons, asI_int, asB_bool, asS_string, asSl_sl, asSl_nl, asFn_fn, asP_cp, nrm_sl, nrm_nl, need_true, ct, cf, bd_eq, natD_zero, natD_succ, natD_one, noYl_v, noYl_sl, noYl_nl, noYl_cp, noYl_fn, Bool.and_true, Bool.true_and, Bool.and_self, beqN_self, Bool.not_true, Bool.not_false, Bool.and_false, Bool.false_and, Bool.or_false, Bool.false_or, Bool.or_true, Bool.true_or, wrap_in, dlt_t, dlt_f, dle_t, dle_f, dgt_t, dgt_f, dge_t, dge_f, ibeq_t, ibeq_f, ibne_t, ibne_f, inR_int, beqN_eq, bleN_le, strs_length, Nat.div_one, Nat.mul_one, Nat.zero_add]
  · have hkp : kept cy l = cy ++ [l] := by unfold kept; rw [if_neg h12]
    have hkn : (cy ++ [l]).length = cy.length + 1 := by simp
    have tC : List.take (cy.length + 1) (cycs (cy ++ [l])) = cycs (cy ++ [l]) := List.take_of_length_le (by rw [cycs_length]; omega)
    rw [hkp] at hsums hso hkeys hbnd hok2 hsl hall hkl ⊢
    rw [hkn] at hsums
    simp (disch := omega) only [obs, rC_c, rA_agg, rT_tup, rP_ptr, rW_own, rS_sb, rF_sb, uncV_cons, uncO_cons, nilV_nil, rO_ob, rN_ob, unc_cons, asI_int, asB_bool, asS_string, asSl_sl, asSl_nl, asFn_fn, asP_cp, nrm_sl, nrm_nl, need_true, ct, cf, bd_eq, natD_zero, natD_succ, natD_one, noYl_v, noYl_sl, noYl_nl, noYl_cp, noYl_fn, Bool.and_true, Bool.true_and, Bool.and_self, beqN_self, Bool.not_true, Bool.not_false, Bool.and_false, Bool.false_and, Bool.or_false, Bool.false_or, Bool.or_true, Bool.true_or, wrap_in, dlt_t, dlt_f, dle_t, dle_f, dgt_t, dgt_f, dge_t, dge_f, ibeq_t, ibeq_f, ibne_t, ibne_f, inR_int, beqN_eq, bleN_le, cycs_length, List.length_append, List.length_cons, List.length_nil, Nat.zero_add, tC, tL, hL, hsums, noYl_mp, pr_keys, hso]
    generalize sumsM (cy ++ [l]) nm = M at *
    generalize hks : sortB (keys M) = ks at *
    rw [show C.sl (cy.length + 1) (cycs (cy ++ [l])) = C.sl (cy ++ [l]).length (cycs (cy ++ [l])) by rw [hkn]]
    rw [iter_runx (fun j : Nat => (((j : Nat) : Int), (C.nl, C.nl, ()), (C.sl (cy ++ [l]).length (cycs (cy ++ [l])), strs ((ks.take j).filter (cond nm lv en M)), ()), ())) 0 ((ks.length : Int), (C.nl, C.nl, ()), (C.sl (cy ++ [l]).length (cycs (cy ++ [l])), strs (ks.filter (cond nm lv en M)), ()), ()) ks.length ?_ ?_ ?_ (by omega)]
    · have hfl : (ks.filter (cond nm lv en M)).length ≤ 150 := Nat.le_trans (List.length_filter_le _ _) hkeys
      have t1 : List.take (ks.filter (cond nm lv en M)).length (strs (ks.filter (cond nm lv en M))) = strs (ks.filter (cond nm lv en M)) := List.take_of_length_le (by rw [strs_length]; omega)
      simp (disch := omega) only [obs, rC_c, rA_agg, rT_tup, rP_ptr, rW_own, rS_sb, rF_sb, uncV_cons, uncO_cons, nilV_nil, rO_ob, rN_ob, unc_cons, asI_int, asB_bool, asS_string, asSl_sl, asSl_nl, asFn_fn, asP_cp, nrm_sl, nrm_nl, need_true, ct, cf, bd_eq, natD_zero, natD_succ, natD_one, noYl_v, noYl_sl, noYl_nl, noYl_cp, noYl_fn, Bool.and_true, Bool.true_and, Bool.and_self, beqN_self, Bool.not_true, Bool.not_false, Bool.and_false, Bool.false_and, Bool.or_false, Bool.false_or, Bool.or_true, Bool.true_or, wrap_in, dlt_t, dlt_f, dle_t, dle_f, dgt_t, dgt_f, dge_t, dge_f, ibeq_t, ibeq_f, ibne_t, ibne_f, inR_int, beqN_eq, bleN_le, strs_length, Nat.div_one, Nat.mul_one, Nat.zero_add, t1]
    · rfl
    · intro j hj
      have hlen : ((ks.take j).filter (cond nm lv en M)).length ≤ 150 := Nat.le_trans (List.length_filter_le _ _) (by rw [List.length_take]; omega)
      have hcon := sp_Contains fu (d + 11) hf nm ks[j] (by omega)
      have hv := hbnd ks[j]
      have p1 : 0 ≤ lv * (val M ks[j]).1 ∧ lv * (val M ks[j]).1 ≤ 100 * 195000000 := ⟨Int.mul_nonneg (by omega) (by omega), Int.mul_le_mul (by omega) (by omega) (by omega) (by omega)⟩
      have p2 : 0 ≤ en * (val M ks[j]).1 ∧ en * (val M ks[j]).1 ≤ 100 * 195000000 := ⟨Int.mul_nonneg (by omega) (by omega), Int.mul_le_mul (by omega) (by omega) (by omega) (by omega)⟩
      rw [filter_succ _ ks hj]
      have hcd : cond nm lv en M ks[j] = if hasS nm ks[j] then decide ((val M ks[j]).1 = 0) || decide (lv * (val M ks[j]).1 ≤ 100 * (val M ks[j]).2) else decide (5 ≤ (val M ks[j]).1) && decide (en * (val M ks[j]).1 ≤ 100 * (val M ks[j]).2) := rfl
      rw [hcd]
      generalize (ks.take j).filter (cond nm lv en M) = F at hlen ⊢
      simp (disch := omega) only [obs, rC_c, rA_agg, rT_tup, rP_ptr, rW_own, rS_sb, rF_sb, uncV_cons, uncO_cons, nilV_nil, rO_ob, rN_ob, unc_cons, asI_int, asB_bool, asS_string, asSl_sl, asSl_nl, asFn_fn, asP_cp, nrm_sl, nrm_nl, need_true, ct, cf, bd_eq, natD_zero, natD_succ, natD_one, noYl_v, noYl_sl, noYl_nl, noYl_cp, noYl_fn, Bool.and_true, Bool.true_and, Bool.and_self, beqN_self, Bool.not_true, Bool.not_false, Bool.and_false, Bool.false_and, Bool.or_false, Bool.false_or, Bool.or_true, Bool.true_or, wrap_in, dlt_t, dlt_f, dle_t, dle_f, dgt_t, dgt_f, dge_t, dge_f, ibeq_t, ibeq_f, ibne_t, ibne_f, inR_int, beqN_eq, bleN_le, Int.toNat_natCast, strs_drop ks hj, asMp_mp, mfd_ent, orZ_ent, e2, hcon]
      unfold valC
      generalize ks[j] = s at *
      generalize val M s = q at *
      obtain ⟨T, R⟩ := q
      dsimp only at hv p1 p2 ⊢
      have hw1 : IntKind.i64.wrap (lv * T) = lv * T := IntWalk.i64_in _ ⟨by generalize lv * T = z at *; omega, by generalize lv * T = z at *; omega⟩
      have hw2 : IntKind.i64.wrap (en * T) = en * T := IntWalk.i64_in _ ⟨by generalize en * T = z at *; omega, by generalize en * T = z at *; omega⟩
      cases hasS nm s with
      | true =>
        by_cases hT : T = 0
        · subst hT
          simp (disch := omega) only [obs, rC_c, rA_agg, rT_tup, rP_ptr, rW_own, rS_sb, rF_sb, uncV_cons, uncO_cons, nilV_nil, rO_ob, rN_ob, unc_cons, asI_int, asB_bool, asS_string, asSl_sl, asSl_nl, asFn_fn, asP_cp, nrm_sl, nrm_nl, need_true, ct, cf, bd_eq, natD_zero, natD_succ, natD_one, noYl_v, noYl_sl, noYl_nl, noYl_cp, noYl_fn, Bool.and_true, Bool.true_and, Bool.and_self, beqN_self, Bool.not_true, Bool.not_false, Bool.and_false, Bool.false_and, Bool.or_false, Bool.false_or, Bool.or_true, Bool.true_or, wrap_in, dlt_t, dlt_f, dle_t, dle_f, dgt_t, dgt_f, dge_t, dge_f, ibeq_t, ibeq_f, ibne_t, ibne_f, inR_int, beqN_eq, bleN_le, strs_length, Nat.div_one, Nat.mul_one, Nat.zero_add, List.length_append, List.length_cons, List.length_nil, strs_snoc, if_true, decide_true]
          rfl
        · by_cases hR : lv * T ≤ 100 * R
          · simp (disch := omega) only [obs, rC_c, rA_agg, rT_tup, rP_ptr, rW_own, rS_sb, rF_sb, uncV_cons, uncO_cons, nilV_nil, rO_ob, rN_ob, unc_cons, asI_int, asB_bool, asS_string, asSl_sl, asSl_nl, asFn_fn, asP_cp, nrm_sl, nrm_nl, need_true, ct, cf, bd_eq, natD_zero, natD_succ, natD_one, noYl_v, noYl_sl, noYl_nl, noYl_cp, noYl_fn, Bool.and_true, Bool.true_and, Bool.and_self, beqN_self, Bool.not_true, Bool.not_false, Bool.and_false, Bool.false_and, Bool.or_false, Bool.false_or, Bool.or_true, Bool.true_or, wrap_in, dlt_t, dlt_f, dle_t, dle_f, dgt_t, dgt_f, dge_t, dge_f, ibeq_t, ibeq_f, ibne_t, ibne_f, inR_int, beqN_eq, bleN_le, hk40, hw1, ge_iff_le, strs_length, Nat.div_one, Nat.mul_one, Nat.zero_add, List.length_append, List.length_cons, List.length_nil, strs_snoc, if_true, decide_eq_true hR]
            rfl
          · simp (disch := omega) only [obs, rC_c, rA_agg, rT_tup, rP_ptr, rW_own, rS_sb, rF_sb, uncV_cons, uncO_cons, nilV_nil, rO_ob, rN_ob, unc_cons, asI_int, asB_bool, asS_string, asSl_sl, asSl_nl, asFn_fn, asP_cp, nrm_sl, nrm_nl, need_true, ct, cf, bd_eq, natD_zero, natD_succ, natD_one, noYl_v, noYl_sl, noYl_nl, noYl_cp, noYl_fn, Bool.and_true, Bool.true_and, Bool.and_self, beqN_self, Bool.not_true, Bool.not_false, Bool.and_false, Bool.false_and, Bool.or_false, Bool.false_or, Bool.or_true, Bool.true_or, wrap_in, dlt_t, dlt_f, dle_t, dle_f, dgt_t, dgt_f, dge_t, dge_f, ibeq_t, ibeq_f, ibne_t, ibne_f, inR_int, beqN_eq, bleN_le, hk40, hw1, ge_iff_le, strs_length, Nat.div_one, Nat.mul_one, Nat.zero_add, if_true, decide_eq_false hT, decide_eq_false hR]
            rfl
      | false =>
        by_cases hT : 5 ≤ T
        · by_cases hR : en * T ≤ 100 * R
          · simp (disch := omega) only [obs, rC_c, rA_agg, rT_tup, rP_ptr, rW_own, rS_sb, rF_sb, uncV_cons, uncO_cons, nilV_nil, rO_ob, rN_ob, unc_cons, asI_int, asB_bool, asS_string, asSl_sl, asSl_nl, asFn_fn, asP_cp, nrm_sl, nrm_nl, need_true, ct, cf, bd_eq, natD_zero, natD_succ, natD_one, noYl_v, noYl_sl, noYl_nl, noYl_cp, noYl_fn, Bool.and_true, Bool.true_and, Bool.and_self, beqN_self, Bool.not_true, Bool.not_false, Bool.and_false, Bool.false_and, Bool.or_false, Bool.false_or, Bool.or_true, Bool.true_or, wrap_in, dlt_t, dlt_f, dle_t, dle_f, dgt_t, dgt_f, dge_t, dge_f, ibeq_t, ibeq_f, ibne_t, ibne_f, inR_int, beqN_eq, bleN_le, hk39, hw2, ge_iff_le, strs_length, Nat.div_one, Nat.mul_one, Nat.zero_add, List.length_append, List.length_cons, List.length_nil, strs_snoc, decide_eq_true hT, decide_eq_true hR, Bool.false_eq_true, if_false]
            rfl
          · simp (disch := omega) only [obs, rC_c, rA_agg, rT_tup, rP_ptr, rW_own, rS_sb, rF_sb, uncV_cons, uncO_cons, nilV_nil, rO_ob, rN_ob, unc_cons, asI_int, asB_bool, asS_string, asSl_sl, asSl_nl, asFn_fn, asP_cp, nrm_sl, nrm_nl, need_true, ct, cf, bd_eq, natD_zero, natD_succ, natD_one, noYl_v, noYl_sl, noYl_nl, noYl_cp, noYl_fn, Bool.and_true, Bool.true_and, Bool.and_self, beqN_self, Bool.not_true, Bool.not_false, Bool.and_false, Bool.false_and, Bool.or_false, Bool.false_or, Bool.or_true, Bool.true_or, wrap_in, dlt_t, dlt_f, dle_t, dle_f, dgt_t, dgt_f, dge_t, dge_f, ibeq_t, ibeq_f, ibne_t, ibne_f, inR_int, beqN_eq, bleN_le, hk39, hw2, ge_iff_le, strs_length, Nat.div_one, Nat.mul_one, Nat.zero_add, decide_eq_true hT, decide_eq_false hR, Bool.false_eq_true, if_false]
            rfl
        · simp (disch := omega) only [obs, rC_c, rA_agg, rT_tup, rP_ptr, rW_own, rS_sb, rF_sb, uncV_cons, uncO_cons, nilV_nil, rO_ob, rN_ob, unc_cons, asI_int, asB_bool, asS_string, asSl_sl, asSl_nl, asFn_fn, asP_cp, nrm_sl, nrm_nl, need_true, ct, cf, bd_eq, natD_zero, natD_succ, natD_one, noYl_v, noYl_sl, noYl_nl, noYl_cp, noYl_fn, Bool.and_true, Bool.true_and, Bool.and_self, beqN_self, Bool.not_true, Bool.not_false, Bool.and_false, Bool.false_and, Bool.or_false, Bool.false_or, Bool.or_true, Bool.true_or, wrap_in, dlt_t, dlt_f, dle_t, dle_f, dgt_t, dgt_f, dge_t, dge_f, ibeq_t, ibeq_f, ibne_t, ibne_f, inR_int, beqN_eq, bleN_le, strs_length, Nat.div_one, Nat.mul_one, Nat.zero_add, decide_eq_false hT, Bool.false_eq_true, if_false]
          rfl
    · rw [List.take_length]
      simp (disch := omega) only [obs, rC_c, rA_agg, rT_tup, rP_ptr, rW_own, rS_sb, rF_sb, uncV_cons, uncO_cons, nilV_nil, rO_ob, rN_ob, unc_cons, asI_int, asB_bool, asS_string, asSl_sl, asSl_nl, asFn_fn, asP_cp, nrm_sl, nrm_nl, need_true, ct, cf, bd_eq, natD_zero, natD_succ, natD_one, noYl_v, noYl_sl, noYl_nl, noYl_cp, noYl_fn, Bool.and_true, Bool.true_and, Bool.and_self, beqN_self, Bool.not_true, Bool.not_false, Bool.and_false, Bool.false_and, Bool.or_false, Bool.false_or, Bool.or_true, Bool.true_or, wrap_in, dlt_t, dlt_f, dle_t, dle_f, dgt_t, dgt_f, dge_t, dge_f, ibeq_t, ibeq_f, ibne_t, ibne_f, inR_int, beqN_eq, bleN_le, strs_length, Nat.div_one, Nat.mul_one, Nat.zero_add]
end
end Go.Proofs.Ytofalpngdbinbaa
/- Listed; the example of the chapter. -/
namespace Go.Proofs.Ytofalpngdbinbaa
open Go Go.PM

def sA : ByteArray := ⟨#[65, 76, 80, 72, 65]⟩
def cA (t r : Int) : List Cnt := [⟨sA, t, r⟩]
theorem nameOk_A : nameOk sA := ⟨by decide, by decide⟩
theorem cycleOk_A {t r : Int} (h : 0 ≤ t ∧ t ≤ 100000 ∧ 0 ≤ r ∧ r ≤ t) : cycleOk (cA t r) :=
  ⟨by simp [cA], fun c hc => by simp [cA] at hc; subst hc; exact ⟨nameOk_A, ⟨h.1, h.2.1⟩, h.2.2⟩, fun j a b h1 h2 => by simp [cA] at h2⟩
theorem asc_A : asc [sA] := fun j a b h1 h2 => by simp at h2
theorem asc_nil : asc [] := fun j a b h1 h2 => by simp at h2
theorem sortB_one (s : ByteArray) : sortB [s] = [s] := by simp [sortB, byt]
theorem listed_one {nm : List ByteArray} {lv en : Int} {M : List Ent} (h : keys M = [sA]) : listed nm lv en M = bif cond nm lv en M sA then [sA] else [] := by
  unfold listed
  rw [h, sortB_one]
  cases hc : cond nm lv en M sA <;> simp [hc]
theorem hasS_A : hasS [sA] sA = true := by simp [hasS]
theorem hasS_nil (s : ByteArray) : hasS [] s = false := rfl

section
variable (fu d : Nat) (hf : 18446744073709551616 ≤ fu)
include hf
theorem sp_Listed {h1 h2 : C} {cy : List (List Cnt)} {nm : List ByteArray} (e1 : nrm h1 = .sl cy.length (cycs cy)) (e2 : nrm h2 = .sl nm.length (strs nm)) (hok : histOk cy nm) (s : ByteArray) :
    cl fu (d + 13) fn_blacklist_Listed [V.agg [h1, h2], V.c (.v (.string s))] [] = some ⟨B (hasS nm s), [], none⟩ := by
  have hV := sp_Validate fu d hf e1 e2 hok
  have hC := sp_Contains fu (d + 10) hf nm s (by have := hok.2.2.1; omega)
  rw [eq_blacklist_Listed, e2]
  simp (disch := omega) only [obs, rC_c, rA_agg, rT_tup, rP_ptr, rW_own, rS_sb, rF_sb, uncV_cons, uncO_cons, nilV_nil, rO_ob, rN_ob, unc_cons, asI_int, asB_bool, asS_string, asSl_sl, asSl_nl, asFn_fn, asP_cp, nrm_sl, nrm_nl, need_true, ct, cf, bd_eq, natD_zero, natD_succ, natD_one, noYl_v, noYl_sl, noYl_nl, noYl_cp, noYl_fn, Bool.and_true, Bool.true_and, Bool.and_self, beqN_self, Bool.not_true, Bool.not_false, Bool.and_false, Bool.false_and, Bool.or_false, Bool.false_or, Bool.or_true, Bool.true_or, wrap_in, dlt_t, dlt_f, dle_t, dle_f, dgt_t, dgt_f, dge_t, dge_f, ibeq_t, ibeq_f, ibne_t, ibne_f, inR_int, beqN_eq, bleN_le, hV, hC]

/-- Push, its answer named. -/
theorem sp_Push' {h1 h2 : C} {cy cy' : List (List Cnt)} {nm nm' : List ByteArray} (e1 : nrm h1 = .sl cy.length (cycs cy)) (e2 : nrm h2 = .sl nm.length (strs nm)) (hok : histOk cy nm)
    {l : List Cnt} (hl : cycleOk l) {a2 : List C} {lv en : Int} {r40 r39 : List C} (hk40 : List.drop 40 a2 = C.v (.int .i64 lv) :: r40) (hk39 : List.drop 39 a2 = C.v (.int .i64 en) :: r39) (hlv : 1 ≤ lv ∧ lv ≤ en ∧ en ≤ 100)
    (hkp : kept cy l = cy') {M : List Ent} (hM : sumsM cy' nm = M) (hli : listed nm lv en M = nm') (hkeys : (keys M).length ≤ 150) :
    cl fu (d + 14) fn_blacklist_Push [V.agg [h1, h2], V.c (cyC l), V.agg a2] [] = some ⟨V.tup [V.agg [C.sl cy'.length (cycs cy'), C.sl nm'.length (strs nm')], I 0], [], none⟩ := by
  subst hkp hM hli
  exact sp_Push fu d hf e1 e2 hok hl hk40 hk39 hlv hkeys
end

def kA : List C := [C.v (.int .i64 0), C.v (.int .i64 0), C.v (.int .i64 0), C.v (.int .i64 0), C.v (.int .i64 0), C.v (.int .i64 0), C.v (.int .i64 0), C.v (.int .i64 0), C.v (.int .i64 0), C.v (.int .i64 0), C.v (.int .i64 0), C.v (.int .i64 0), C.v (.int .i64 0), C.v (.int .i64 0), C.v (.int .i64 0), C.v (.int .i64 0), C.v (.int .i64 0), C.v (.int .i64 0), C.v (.int .i64 0), C.v (.int .i64 0), C.v (.int .i64 0), C.v (.int .i64 0), C.v (.int .i64 0), C.v (.int .i64 0), C.v (.int .i64 0), C.v (.int .i64 0), C.v (.int .i64 0), C.v (.int .i64 0), C.v (.int .i64 0), C.v (.int .i64 0), C.v (.int .i64 0), C.v (.int .i64 0), C.v (.int .i64 0), C.v (.int .i64 0), C.v (.int .i64 0), C.v (.int .i64 0), C.v (.int .i64 0), C.v (.int .i64 0), C.v (.int .i64 0), C.v (.int .i64 50), C.v (.int .i64 20)]
theorem sums1 : sumsM [cA 5 3] [] = [(sA, 5, 3)] := by rfl
theorem sums2 : sumsM [cA 5 3, cA 5 0] [sA] = [(sA, 10, 3)] := by rfl
theorem sums3 : sumsM [cA 5 3, cA 5 0, cA 5 0] [sA] = [(sA, 15, 3)] := by rfl
theorem sums4 : sumsM [cA 5 3, cA 5 0, cA 5 0, cA 5 0] [sA] = [(sA, 20, 3)] := by rfl
theorem histOk_A {cy : List (List Cnt)} {nm : List ByteArray} (h1 : cy.length ≤ 12) (h2 : ∀ l ∈ cy, cycleOk l) (h3 : nm = [] ∨ nm = [sA]) : histOk cy nm := by
  rcases h3 with rfl | rfl
  · exact ⟨h1, h2, by simp, by simp, asc_nil⟩
  · exact ⟨h1, h2, by simp, by simpa using nameOk_A, asc_A⟩
theorem c53 : cycleOk (cA 5 3) := cycleOk_A (by omega)
theorem c50 : cycleOk (cA 5 0) := cycleOk_A (by omega)

theorem sp_awake (fu d : Nat) (hf : 18446744073709551616 ≤ fu) : cl fu (d + 15) fn_synopticlaw19_awake [] [] = some ⟨B true, [], none⟩ := by
  have p1 := sp_Push' fu d hf (h1 := C.nl) (h2 := C.nl) (cy := []) (nm := []) rfl rfl (histOk_A (by simp) (by simp) (.inl rfl)) c53 (a2 := kA) (lv := 20) (en := 50) rfl rfl (by omega) (cy' := [cA 5 3]) rfl sums1 (nm' := [sA]) (by rw [listed_one rfl]; rfl) (by simp [keys])
  have p2 := sp_Push' fu d hf (h1 := C.sl 1 (cycs [cA 5 3])) (h2 := C.sl 1 (strs [sA])) (cy := [cA 5 3]) (nm := [sA]) rfl rfl (histOk_A (by simp) (by simpa using c53) (.inr rfl)) c50 (a2 := kA) (lv := 20) (en := 50) rfl rfl (by omega) (cy' := [cA 5 3, cA 5 0]) rfl sums2 (nm' := [sA]) (by rw [listed_one rfl]; rfl) (by simp [keys])
  have p3 := sp_Push' fu d hf (h1 := C.sl 2 (cycs [cA 5 3, cA 5 0])) (h2 := C.sl 1 (strs [sA])) (cy := [cA 5 3, cA 5 0]) (nm := [sA]) rfl rfl (histOk_A (by simp) (by simpa using ⟨c53, c50⟩) (.inr rfl)) c50 (a2 := kA) (lv := 20) (en := 50) rfl rfl (by omega) (cy' := [cA 5 3, cA 5 0, cA 5 0]) rfl sums3 (nm' := [sA]) (by rw [listed_one rfl]; rfl) (by simp [keys])
  have p4 := sp_Push' fu d hf (h1 := C.sl 3 (cycs [cA 5 3, cA 5 0, cA 5 0])) (h2 := C.sl 1 (strs [sA])) (cy := [cA 5 3, cA 5 0, cA 5 0]) (nm := [sA]) rfl rfl (histOk_A (by simp) (by simpa using ⟨c53, c50⟩) (.inr rfl)) c50 (a2 := kA) (lv := 20) (en := 50) rfl rfl (by omega) (cy' := [cA 5 3, cA 5 0, cA 5 0, cA 5 0]) rfl sums4 (nm' := []) (by rw [listed_one rfl]; rfl) (by simp [keys])
  have l1 := sp_Listed fu (d + 1) hf (h1 := C.sl 1 (cycs [cA 5 3])) (h2 := C.sl 1 (strs [sA])) (cy := [cA 5 3]) (nm := [sA]) rfl rfl (histOk_A (by simp) (by simpa using c53) (.inr rfl)) sA
  have l3 := sp_Listed fu (d + 1) hf (h1 := C.sl 3 (cycs [cA 5 3, cA 5 0, cA 5 0])) (h2 := C.sl 1 (strs [sA])) (cy := [cA 5 3, cA 5 0, cA 5 0]) (nm := [sA]) rfl rfl (histOk_A (by simp) (by simpa using ⟨c53, c50⟩) (.inr rfl)) sA
  have l4 := sp_Listed fu (d + 1) hf (h1 := C.sl 4 (cycs [cA 5 3, cA 5 0, cA 5 0, cA 5 0])) (h2 := C.sl 0 (strs [])) (cy := [cA 5 3, cA 5 0, cA 5 0, cA 5 0]) (nm := []) rfl rfl (histOk_A (by simp) (by simpa using ⟨c53, c50⟩) (.inl rfl)) sA
  have e53 : cyC (cA 5 3) = C.sl 1 [C.v (.string sA), C.v (.int .i64 5), C.v (.int .i64 3)] := rfl
  have e50 : cyC (cA 5 0) = C.sl 1 [C.v (.string sA), C.v (.int .i64 5), C.v (.int .i64 0)] := rfl
  have eA : (⟨#[65, 76, 80, 72, 65]⟩ : ByteArray) = sA := rfl
  rw [e53] at p1
  rw [e50] at p2 p3 p4
  simp only [List.length_cons, List.length_nil, Nat.zero_add, Nat.reduceAdd] at p1 p2 p3 p4
  unfold kA at p1 p2 p3 p4
  rw [eq_synopticlaw19_awake]
  simp only [eA]
  rw [p1]
  simp (disch := omega) only [obs, rC_c, rA_agg, rT_tup, rP_ptr, rW_own, rS_sb, rF_sb, uncV_cons, uncO_cons, nilV_nil, rO_ob, rN_ob, unc_cons, asI_int, asB_bool, asS_string, asSl_sl, asSl_nl, asFn_fn, asP_cp, nrm_sl, nrm_nl, need_true, ct, cf, bd_eq, natD_zero, natD_succ, natD_one, noYl_v, noYl_sl, noYl_nl, noYl_cp, noYl_fn, Bool.and_true, Bool.true_and, Bool.and_self, beqN_self, Bool.not_true, Bool.not_false, Bool.and_false, Bool.false_and, Bool.or_false, Bool.false_or, Bool.or_true, Bool.true_or, wrap_in, dlt_t, dlt_f, dle_t, dle_f, dgt_t, dgt_f, dge_t, dge_f, ibeq_t, ibeq_f, ibne_t, ibne_f, inR_int, beqN_eq, bleN_le, List.length_cons, List.length_nil, Nat.zero_add, Nat.reduceAdd, l1]
  rw [iter_runx (fun j : Nat => ((0 : Int), (j : Int), ((if j = 0 then C.sl 1 (cycs [cA 5 3]) else if j = 1 then C.sl 2 (cycs [cA 5 3, cA 5 0]) else C.sl 3 (cycs [cA 5 3, cA 5 0, cA 5 0])), C.sl 1 (strs [sA]), ()), ())) 0 ((0 : Int), (2 : Int), (C.sl 3 (cycs [cA 5 3, cA 5 0, cA 5 0]), C.sl 1 (strs [sA]), ()), ()) 2 ?_ ?_ ?_ (by omega)]
  · simp (disch := omega) only [obs, rC_c, rA_agg, rT_tup, rP_ptr, rW_own, rS_sb, rF_sb, uncV_cons, uncO_cons, nilV_nil, rO_ob, rN_ob, unc_cons, asI_int, asB_bool, asS_string, asSl_sl, asSl_nl, asFn_fn, asP_cp, nrm_sl, nrm_nl, need_true, ct, cf, bd_eq, natD_zero, natD_succ, natD_one, noYl_v, noYl_sl, noYl_nl, noYl_cp, noYl_fn, Bool.and_true, Bool.true_and, Bool.and_self, beqN_self, Bool.not_true, Bool.not_false, Bool.and_false, Bool.false_and, Bool.or_false, Bool.false_or, Bool.or_true, Bool.true_or, wrap_in, dlt_t, dlt_f, dle_t, dle_f, dgt_t, dgt_f, dge_t, dge_f, ibeq_t, ibeq_f, ibne_t, ibne_f, inR_int, beqN_eq, bleN_le, List.length_cons, List.length_nil, Nat.zero_add, Nat.reduceAdd, l3, p4, l4, hasS_A, hasS_nil]
  · rfl
  · intro j hj
    have : j = 0 ∨ j = 1 := by omega
    rcases this with rfl | rfl
    · simp (disch := omega) only [obs, rC_c, rA_agg, rT_tup, rP_ptr, rW_own, rS_sb, rF_sb, uncV_cons, uncO_cons, nilV_nil, rO_ob, rN_ob, unc_cons, asI_int, asB_bool, asS_string, asSl_sl, asSl_nl, asFn_fn, asP_cp, nrm_sl, nrm_nl, need_true, ct, cf, bd_eq, natD_zero, natD_succ, natD_one, noYl_v, noYl_sl, noYl_nl, noYl_cp, noYl_fn, Bool.and_true, Bool.true_and, Bool.and_self, beqN_self, Bool.not_true, Bool.not_false, Bool.and_false, Bool.false_and, Bool.or_false, Bool.false_or, Bool.or_true, Bool.true_or, wrap_in, dlt_t, dlt_f, dle_t, dle_f, dgt_t, dgt_f, dge_t, dge_f, ibeq_t, ibeq_f, ibne_t, ibne_f, inR_int, beqN_eq, bleN_le, List.length_cons, List.length_nil, Nat.zero_add, Nat.reduceAdd, p2, if_true]
      rfl
    · simp (disch := omega) only [obs, rC_c, rA_agg, rT_tup, rP_ptr, rW_own, rS_sb, rF_sb, uncV_cons, uncO_cons, nilV_nil, rO_ob, rN_ob, unc_cons, asI_int, asB_bool, asS_string, asSl_sl, asSl_nl, asFn_fn, asP_cp, nrm_sl, nrm_nl, need_true, ct, cf, bd_eq, natD_zero, natD_succ, natD_one, noYl_v, noYl_sl, noYl_nl, noYl_cp, noYl_fn, Bool.and_true, Bool.true_and, Bool.and_self, beqN_self, Bool.not_true, Bool.not_false, Bool.and_false, Bool.false_and, Bool.or_false, Bool.false_or, Bool.or_true, Bool.true_or, wrap_in, dlt_t, dlt_f, dle_t, dle_f, dgt_t, dgt_f, dge_t, dge_f, ibeq_t, ibeq_f, ibne_t, ibne_f, inR_int, beqN_eq, bleN_le, List.length_cons, List.length_nil, Nat.zero_add, Nat.reduceAdd, p3, if_true, if_false, Nat.one_ne_zero]
      rfl
  · rfl
end Go.Proofs.Ytofalpngdbinbaa
/- BlacklistReturns answers true. -/
namespace Go.Proofs.Ytofalpngdbinbaa
open Go Go.PM

theorem sums_n (t r : Int) : sumsM [cA t r] [] = [(sA, 0 + t, 0 + r)] := by rfl
theorem sums_y (t r : Int) : sumsM [cA t r] [sA] = [(sA, 0 + t, 0 + r)] := by rfl
theorem val_one (q : Int × Int) : val [(sA, q)] sA = q := by simp [val, look]

def kE (en lv : Int) : List C := [C.v (.int .i64 0), C.v (.int .i64 0), C.v (.int .i64 0), C.v (.int .i64 0), C.v (.int .i64 0), C.v (.int .i64 0), C.v (.int .i64 0), C.v (.int .i64 0), C.v (.int .i64 0), C.v (.int .i64 0), C.v (.int .i64 0), C.v (.int .i64 0), C.v (.int .i64 0), C.v (.int .i64 0), C.v (.int .i64 0), C.v (.int .i64 0), C.v (.int .i64 0), C.v (.int .i64 0), C.v (.int .i64 0), C.v (.int .i64 0), C.v (.int .i64 0), C.v (.int .i64 0), C.v (.int .i64 0), C.v (.int .i64 0), C.v (.int .i64 0), C.v (.int .i64 0), C.v (.int .i64 0), C.v (.int .i64 0), C.v (.int .i64 0), C.v (.int .i64 0), C.v (.int .i64 0), C.v (.int .i64 0), C.v (.int .i64 0), C.v (.int .i64 0), C.v (.int .i64 0), C.v (.int .i64 0), C.v (.int .i64 0), C.v (.int .i64 0), C.v (.int .i64 0), C.v (.int .i64 en), C.v (.int .i64 lv)]

set_option maxHeartbeats 2000000 in
theorem sp_BlacklistReturns (fu d : Nat) (hf : 18446744073709551616 ≤ fu) (a0 a1 : Int) (a2 : Bool) (l : List Int) :
    cl fu (d + 16) fn_synopticlaw19_BlacklistReturns [I a0, I a1, B a2, V.c (C.sl l.length (ints l))] [] = some ⟨B true, [], none⟩ := by
  have hl : (l.take 2000).length ≤ 2000 := by rw [List.length_take]; omega
  have hN := sp_New fu (d + 14) l
  generalize l.take 2000 = l' at hl hN
  obtain ⟨en, j1, a3, b3, c3⟩ := sp_Range fu (d + 12) l' 0 hl 30 100 (by omega) ⟨by omega, by omega⟩
  obtain ⟨lv, j2, a4, b4, c4⟩ := sp_Range fu (d + 12) l' j1 hl 1 30 (by omega) ⟨by omega, by omega⟩
  obtain ⟨t, a5, b5, c5⟩ := sp_Mod fu (d + 14) a0 300 (by omega)
  obtain ⟨r', a6, b6, c6⟩ := sp_Mod fu (d + 14) a1 (t + 1) (by omega)
  have haw := sp_awake fu d hf
  unfold srcO srcC at hN a3 a4
  have eA : (⟨#[65, 76, 80, 72, 65]⟩ : ByteArray) = sA := rfl
  rw [eq_synopticlaw19_BlacklistReturns]
  simp only [eA]
  simp (disch := omega) only [obs, rC_c, rA_agg, rT_tup, rP_ptr, rW_own, rS_sb, rF_sb, uncV_cons, uncO_cons, nilV_nil, rO_ob, rN_ob, unc_cons, asI_int, asB_bool, asS_string, asSl_sl, asSl_nl, asFn_fn, asP_cp, nrm_sl, nrm_nl, need_true, ct, cf, bd_eq, natD_zero, natD_succ, natD_one, noYl_v, noYl_sl, noYl_nl, noYl_cp, noYl_fn, Bool.and_true, Bool.true_and, Bool.and_self, beqN_self, Bool.not_true, Bool.not_false, Bool.and_false, Bool.false_and, Bool.or_false, Bool.false_or, Bool.or_true, Bool.true_or, wrap_in, dlt_t, dlt_f, dle_t, dle_f, dgt_t, dgt_f, dge_t, dge_f, ibeq_t, ibeq_f, ibne_t, ibne_f, inR_int, beqN_eq, bleN_le, hN, a3, a4, a5, List.length_cons, List.length_nil, Nat.zero_add, Nat.reduceAdd]
  simp only [out0, ct, need_true]
  -- the rejected ones
  obtain ⟨r, hr, hp⟩ : ∃ r : Int, (0 ≤ r ∧ r ≤ t) ∧ (bif decide (t > 0) then
      (cl fu (d + 15) fn_synoptickeep_Mod [I a1, I (t + 1)] []).bind fun out4 =>
      rC out4.r fun c9 =>
      asI .i64 c9 fun i6 => some (0, i6, kE en lv, ())
    else some (0, 0, kE en lv, ()) : Option (Nat × Int × List C × Unit)) = some (0, r, kE en lv, ()) := by
    by_cases h0 : 0 < t
    · refine ⟨r', by omega, ?_⟩
      simp (disch := omega) only [obs, rC_c, rA_agg, rT_tup, rP_ptr, rW_own, rS_sb, rF_sb, uncV_cons, uncO_cons, nilV_nil, rO_ob, rN_ob, unc_cons, asI_int, asB_bool, asS_string, asSl_sl, asSl_nl, asFn_fn, asP_cp, nrm_sl, nrm_nl, need_true, ct, cf, bd_eq, natD_zero, natD_succ, natD_one, noYl_v, noYl_sl, noYl_nl, noYl_cp, noYl_fn, Bool.and_true, Bool.true_and, Bool.and_self, beqN_self, Bool.not_true, Bool.not_false, Bool.and_false, Bool.false_and, Bool.or_false, Bool.false_or, Bool.or_true, Bool.true_or, wrap_in, dlt_t, dlt_f, dle_t, dle_f, dgt_t, dgt_f, dge_t, dge_f, ibeq_t, ibeq_f, ibne_t, ibne_f, inR_int, beqN_eq, bleN_le, a6]
    · refine ⟨0, by omega, ?_⟩
      simp (disch := omega) only [obs, rC_c, rA_agg, rT_tup, rP_ptr, rW_own, rS_sb, rF_sb, uncV_cons, uncO_cons, nilV_nil, rO_ob, rN_ob, unc_cons, asI_int, asB_bool, asS_string, asSl_sl, asSl_nl, asFn_fn, asP_cp, nrm_sl, nrm_nl, need_true, ct, cf, bd_eq, natD_zero, natD_succ, natD_one, noYl_v, noYl_sl, noYl_nl, noYl_cp, noYl_fn, Bool.and_true, Bool.true_and, Bool.and_self, beqN_self, Bool.not_true, Bool.not_false, Bool.and_false, Bool.false_and, Bool.or_false, Bool.false_or, Bool.or_true, Bool.true_or, wrap_in, dlt_t, dlt_f, dle_t, dle_f, dgt_t, dgt_f, dge_t, dge_f, ibeq_t, ibeq_f, ibne_t, ibne_f, inR_int, beqN_eq, bleN_le]
  simp only [kE] at hp
  rw [hp]
  have q1 : 0 ≤ lv * t ∧ lv * t ≤ 30 * 300 := ⟨Int.mul_nonneg (by omega) (by omega), Int.mul_le_mul (by omega) (by omega) (by omega) (by omega)⟩
  have q2 : 0 ≤ en * t ∧ en * t ≤ 100 * 300 := ⟨Int.mul_nonneg (by omega) (by omega), Int.mul_le_mul (by omega) (by omega) (by omega) (by omega)⟩
  have w1 : IntKind.i64.wrap (lv * t) = lv * t := IntWalk.i64_in _ ⟨by generalize lv * t = z at *; omega, by generalize lv * t = z at *; omega⟩
  have w2 : IntKind.i64.wrap (en * t) = en * t := IntWalk.i64_in _ ⟨by generalize en * t = z at *; omega, by generalize en * t = z at *; omega⟩
  have w3 : IntKind.i64.wrap (100 * r) = 100 * r := IntWalk.i64_in _ ⟨by omega, by omega⟩
  have hcy : cycleOk (cA t r) := cycleOk_A (by omega)
  have ec : cyC (cA t r) = C.sl 1 [C.v (.string sA), C.v (.int .i64 t), C.v (.int .i64 r)] := rfl
  have hpush : ∀ (h2 : C) (nm : List ByteArray), nrm h2 = .sl nm.length (strs nm) → (nm = [] ∨ nm = [sA]) → sumsM [cA t r] nm = [(sA, 0 + t, 0 + r)] →
      cl fu (d + 15) fn_blacklist_Push [V.agg [C.nl, h2], V.c (C.sl 1 [C.v (.string sA), C.v (.int .i64 t), C.v (.int .i64 r)]), V.agg (kE en lv)] [] =
        some ⟨V.tup [V.agg [C.sl 1 (cycs [cA t r]), C.sl (bif cond nm lv en [(sA, 0 + t, 0 + r)] sA then [sA] else []).length (strs (bif cond nm lv en [(sA, 0 + t, 0 + r)] sA then [sA] else []))], I 0], [], none⟩ := by
    intro h2 nm e2 hnm hsum
    have := sp_Push' fu (d + 1) hf (h1 := C.nl) (h2 := h2) (cy := []) (nm := nm) rfl e2 (histOk_A (by simp) (by simp) hnm) hcy (a2 := kE en lv) (lv := lv) (en := en) rfl rfl (by omega) (cy' := [cA t r]) rfl hsum (listed_one rfl) (by simp [keys])
    rw [ec] at this
    exact this
  have hlist : ∀ b : Bool, cl fu (d + 15) fn_blacklist_Listed [V.agg [C.sl 1 (cycs [cA t r]), C.sl (bif b then [sA] else []).length (strs (bif b then [sA] else []))], V.c (.v (.string sA))] [] = some ⟨B b, [], none⟩ := by
    intro b
    have h := sp_Listed fu (d + 2) hf (h1 := C.sl 1 (cycs [cA t r])) (h2 := C.sl (bif b then [sA] else []).length (strs (bif b then [sA] else []))) (cy := [cA t r]) (nm := bif b then [sA] else []) rfl rfl (histOk_A (by simp) (by simpa using hcy) (by cases b <;> simp)) sA
    have hb : hasS (bif b then [sA] else []) sA = b := by cases b <;> simp [hasS]
    rw [hb] at h
    exact h
  have t41 : List.take 41 (kE en lv) = kE en lv := rfl
  have d39 : List.drop 39 (kE en lv) = [C.v (.int .i64 en), C.v (.int .i64 lv)] := rfl
  have d40 : List.drop 40 (kE en lv) = [C.v (.int .i64 lv)] := rfl
  have hT := hlist true
  have hF := hlist false
  simp only [ct, cf, List.length_cons, List.length_nil, Nat.zero_add, Nat.reduceAdd] at hT hF
  simp only [kE] at hpush t41 d39 d40
  cases a2 with
  | true =>
    have hpu := hpush (C.sl 1 [C.v (.string sA)]) [sA] rfl (.inr rfl) (sums_y t r)
    have hc : cond [sA] lv en [(sA, 0 + t, 0 + r)] sA = (decide (t = 0) || decide (lv * t ≤ 100 * r)) := by
      unfold cond
      rw [hasS_A, val_one]
      simp
    rw [hc] at hpu
    simp (disch := omega) only [obs, rC_c, rA_agg, rT_tup, rP_ptr, rW_own, rS_sb, rF_sb, uncV_cons, uncO_cons, nilV_nil, rO_ob, rN_ob, unc_cons, asI_int, asB_bool, asS_string, asSl_sl, asSl_nl, asFn_fn, asP_cp, nrm_sl, nrm_nl, need_true, ct, cf, bd_eq, natD_zero, natD_succ, natD_one, noYl_v, noYl_sl, noYl_nl, noYl_cp, noYl_fn, Bool.and_true, Bool.true_and, Bool.and_self, beqN_self, Bool.not_true, Bool.not_false, Bool.and_false, Bool.false_and, Bool.or_false, Bool.false_or, Bool.or_true, Bool.true_or, wrap_in, dlt_t, dlt_f, dle_t, dle_f, dgt_t, dgt_f, dge_t, dge_f, ibeq_t, ibeq_f, ibne_t, ibne_f, inR_int, beqN_eq, bleN_le, t41, hpu, List.length_cons, List.length_nil, Nat.zero_add, Nat.reduceAdd, w1, w2, w3]
    by_cases h0 : t = 0
    · subst h0
      simp (disch := omega) only [obs, rC_c, rA_agg, rT_tup, rP_ptr, rW_own, rS_sb, rF_sb, uncV_cons, uncO_cons, nilV_nil, rO_ob, rN_ob, unc_cons, asI_int, asB_bool, asS_string, asSl_sl, asSl_nl, asFn_fn, asP_cp, nrm_sl, nrm_nl, need_true, ct, cf, bd_eq, natD_zero, natD_succ, natD_one, noYl_v, noYl_sl, noYl_nl, noYl_cp, noYl_fn, Bool.and_true, Bool.true_and, Bool.and_self, beqN_self, Bool.not_true, Bool.not_false, Bool.and_false, Bool.false_and, Bool.or_false, Bool.false_or, Bool.or_true, Bool.true_or, wrap_in, dlt_t, dlt_f, dle_t, dle_f, dgt_t, dgt_f, dge_t, dge_f, ibeq_t, ibeq_f, ibne_t, ibne_f, inR_int, beqN_eq, bleN_le, d39, d40, List.length_cons, List.length_nil, Nat.zero_add, Nat.reduceAdd, decide_true, hT, haw, beq_self_eq_true]
    · by_cases hR : lv * t ≤ 100 * r
      · by_cases h5 : 5 ≤ t
        · simp (disch := omega) only [obs, rC_c, rA_agg, rT_tup, rP_ptr, rW_own, rS_sb, rF_sb, uncV_cons, uncO_cons, nilV_nil, rO_ob, rN_ob, unc_cons, asI_int, asB_bool, asS_string, asSl_sl, asSl_nl, asFn_fn, asP_cp, nrm_sl, nrm_nl, need_true, ct, cf, bd_eq, natD_zero, natD_succ, natD_one, noYl_v, noYl_sl, noYl_nl, noYl_cp, noYl_fn, Bool.and_true, Bool.true_and, Bool.and_self, beqN_self, Bool.not_true, Bool.not_false, Bool.and_false, Bool.false_and, Bool.or_false, Bool.false_or, Bool.or_true, Bool.true_or, wrap_in, dlt_t, dlt_f, dle_t, dle_f, dgt_t, dgt_f, dge_t, dge_f, ibeq_t, ibeq_f, ibne_t, ibne_f, inR_int, beqN_eq, bleN_le, d39, d40, List.length_cons, List.length_nil, Nat.zero_add, Nat.reduceAdd, w1, w2, w3, decide_eq_false h0, ge_iff_le, decide_eq_true hR, decide_eq_true h5, hT, haw, beq_self_eq_true]
        · simp (disch := omega) only [obs, rC_c, rA_agg, rT_tup, rP_ptr, rW_own, rS_sb, rF_sb, uncV_cons, uncO_cons, nilV_nil, rO_ob, rN_ob, unc_cons, asI_int, asB_bool, asS_string, asSl_sl, asSl_nl, asFn_fn, asP_cp, nrm_sl, nrm_nl, need_true, ct, cf, bd_eq, natD_zero, natD_succ, natD_one, noYl_v, noYl_sl, noYl_nl, noYl_cp, noYl_fn, Bool.and_true, Bool.true_and, Bool.and_self, beqN_self, Bool.not_true, Bool.not_false, Bool.and_false, Bool.false_and, Bool.or_false, Bool.false_or, Bool.or_true, Bool.true_or, wrap_in, dlt_t, dlt_f, dle_t, dle_f, dgt_t, dgt_f, dge_t, dge_f, ibeq_t, ibeq_f, ibne_t, ibne_f, inR_int, beqN_eq, bleN_le, d39, d40, List.length_cons, List.length_nil, Nat.zero_add, Nat.reduceAdd, w1, w2, w3, decide_eq_false h0, ge_iff_le, decide_eq_true hR, decide_eq_false h5, hT, haw, beq_self_eq_true]
      · by_cases h5 : 5 ≤ t
        · simp (disch := omega) only [obs, rC_c, rA_agg, rT_tup, rP_ptr, rW_own, rS_sb, rF_sb, uncV_cons, uncO_cons, nilV_nil, rO_ob, rN_ob, unc_cons, asI_int, asB_bool, asS_string, asSl_sl, asSl_nl, asFn_fn, asP_cp, nrm_sl, nrm_nl, need_true, ct, cf, bd_eq, natD_zero, natD_succ, natD_one, noYl_v, noYl_sl, noYl_nl, noYl_cp, noYl_fn, Bool.and_true, Bool.true_and, Bool.and_self, beqN_self, Bool.not_true, Bool.not_false, Bool.and_false, Bool.false_and, Bool.or_false, Bool.false_or, Bool.or_true, Bool.true_or, wrap_in, dlt_t, dlt_f, dle_t, dle_f, dgt_t, dgt_f, dge_t, dge_f, ibeq_t, ibeq_f, ibne_t, ibne_f, inR_int, beqN_eq, bleN_le, d39, d40, List.length_cons, List.length_nil, Nat.zero_add, Nat.reduceAdd, w1, w2, w3, decide_eq_false h0, ge_iff_le, decide_eq_false hR, decide_eq_true h5, hF, haw, beq_self_eq_true]
        · simp (disch := omega) only [obs, rC_c, rA_agg, rT_tup, rP_ptr, rW_own, rS_sb, rF_sb, uncV_cons, uncO_cons, nilV_nil, rO_ob, rN_ob, unc_cons, asI_int, asB_bool, asS_string, asSl_sl, asSl_nl, asFn_fn, asP_cp, nrm_sl, nrm_nl, need_true, ct, cf, bd_eq, natD_zero, natD_succ, natD_one, noYl_v, noYl_sl, noYl_nl, noYl_cp, noYl_fn, Bool.and_true, Bool.true_and, Bool.and_self, beqN_self, Bool.not_true, Bool.not_false, Bool.and_false, Bool.false_and, Bool.or_false, Bool.false_or, Bool.or_true, Bool.true_or, wrap_in, dlt_t, dlt_f, dle_t, dle_f, dgt_t, dgt_f, dge_t, dge_f, ibeq_t, ibeq_f, ibne_t, ibne_f, inR_int, beqN_eq, bleN_le, d39, d40, List.length_cons, List.length_nil, Nat.zero_add, Nat.reduceAdd, w1, w2, w3, decide_eq_false h0, ge_iff_le, decide_eq_false hR, decide_eq_false h5, hF, haw, beq_self_eq_true]
  | false =>
    have hpu := hpush C.nl [] rfl (.inl rfl) (sums_n t r)
    have hc : cond [] lv en [(sA, 0 + t, 0 + r)] sA = (decide (5 ≤ t) && decide (en * t ≤ 100 * r)) := by
      unfold cond
      rw [hasS_nil, val_one]
      simp
    rw [hc] at hpu
    simp (disch := omega) only [obs, rC_c, rA_agg, rT_tup, rP_ptr, rW_own, rS_sb, rF_sb, uncV_cons, uncO_cons, nilV_nil, rO_ob, rN_ob, unc_cons, asI_int, asB_bool, asS_string, asSl_sl, asSl_nl, asFn_fn, asP_cp, nrm_sl, nrm_nl, need_true, ct, cf, bd_eq, natD_zero, natD_succ, natD_one, noYl_v, noYl_sl, noYl_nl, noYl_cp, noYl_fn, Bool.and_true, Bool.true_and, Bool.and_self, beqN_self, Bool.not_true, Bool.not_false, Bool.and_false, Bool.false_and, Bool.or_false, Bool.false_or, Bool.or_true, Bool.true_or, wrap_in, dlt_t, dlt_f, dle_t, dle_f, dgt_t, dgt_f, dge_t, dge_f, ibeq_t, ibeq_f, ibne_t, ibne_f, inR_int, beqN_eq, bleN_le, t41, hpu, List.length_cons, List.length_nil, Nat.zero_add, Nat.reduceAdd, w1, w2, w3]
    by_cases h5 : 5 ≤ t
    · by_cases hR : en * t ≤ 100 * r
      · simp (disch := omega) only [obs, rC_c, rA_agg, rT_tup, rP_ptr, rW_own, rS_sb, rF_sb, uncV_cons, uncO_cons, nilV_nil, rO_ob, rN_ob, unc_cons, asI_int, asB_bool, asS_string, asSl_sl, asSl_nl, asFn_fn, asP_cp, nrm_sl, nrm_nl, need_true, ct, cf, bd_eq, natD_zero, natD_succ, natD_one, noYl_v, noYl_sl, noYl_nl, noYl_cp, noYl_fn, Bool.and_true, Bool.true_and, Bool.and_self, beqN_self, Bool.not_true, Bool.not_false, Bool.and_false, Bool.false_and, Bool.or_false, Bool.false_or, Bool.or_true, Bool.true_or, wrap_in, dlt_t, dlt_f, dle_t, dle_f, dgt_t, dgt_f, dge_t, dge_f, ibeq_t, ibeq_f, ibne_t, ibne_f, inR_int, beqN_eq, bleN_le, d39, d40, List.length_cons, List.length_nil, Nat.zero_add, Nat.reduceAdd, w1, w2, w3, ge_iff_le, decide_eq_true hR, decide_eq_true h5, hT, haw, beq_self_eq_true]
      · simp (disch := omega) only [obs, rC_c, rA_agg, rT_tup, rP_ptr, rW_own, rS_sb, rF_sb, uncV_cons, uncO_cons, nilV_nil, rO_ob, rN_ob, unc_cons, asI_int, asB_bool, asS_string, asSl_sl, asSl_nl, asFn_fn, asP_cp, nrm_sl, nrm_nl, need_true, ct, cf, bd_eq, natD_zero, natD_succ, natD_one, noYl_v, noYl_sl, noYl_nl, noYl_cp, noYl_fn, Bool.and_true, Bool.true_and, Bool.and_self, beqN_self, Bool.not_true, Bool.not_false, Bool.and_false, Bool.false_and, Bool.or_false, Bool.false_or, Bool.or_true, Bool.true_or, wrap_in, dlt_t, dlt_f, dle_t, dle_f, dgt_t, dgt_f, dge_t, dge_f, ibeq_t, ibeq_f, ibne_t, ibne_f, inR_int, beqN_eq, bleN_le, d39, d40, List.length_cons, List.length_nil, Nat.zero_add, Nat.reduceAdd, w1, w2, w3, ge_iff_le, decide_eq_false hR, decide_eq_true h5, hF, haw, beq_self_eq_true]
    · simp (disch := omega) only [obs, rC_c, rA_agg, rT_tup, rP_ptr, rW_own, rS_sb, rF_sb, uncV_cons, uncO_cons, nilV_nil, rO_ob, rN_ob, unc_cons, asI_int, asB_bool, asS_string, asSl_sl, asSl_nl, asFn_fn, asP_cp, nrm_sl, nrm_nl, need_true, ct, cf, bd_eq, natD_zero, natD_succ, natD_one, noYl_v, noYl_sl, noYl_nl, noYl_cp, noYl_fn, Bool.and_true, Bool.true_and, Bool.and_self, beqN_self, Bool.not_true, Bool.not_false, Bool.and_false, Bool.false_and, Bool.or_false, Bool.false_or, Bool.or_true, Bool.true_or, wrap_in, dlt_t, dlt_f, dle_t, dle_f, dgt_t, dgt_f, dge_t, dge_f, ibeq_t, ibeq_f, ibne_t, ibne_f, inR_int, beqN_eq, bleN_le, d39, d40, List.length_cons, List.length_nil, Nat.zero_add, Nat.reduceAdd, w1, w2, w3, ge_iff_le, decide_eq_false h5, hF, haw, beq_self_eq_true]
end Go.Proofs.Ytofalpngdbinbaa
