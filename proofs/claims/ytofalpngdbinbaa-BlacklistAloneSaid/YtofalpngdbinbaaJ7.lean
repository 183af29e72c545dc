/- Parts put together: W, Ba, Bb, Bc, Bd, Be, Bf, Bg, Ca, Cb, Cc, Cd, Ce, Bh. -/
import Derived.Test.YtofalpngdbinbaaJ4
import Derived.Test.YtofalpngdbinbaaPrim
set_option linter.unusedSimpArgs false
set_option linter.unusedVariables false
/- Rules whose conditions simp can have shown by omega; lists of records as cells. -/
namespace Go.PM
open Go

theorem wrap_in {x : Int} (h1 : -9223372036854775808 ≤ x) (h2 : x ≤ 9223372036854775807) : IntKind.i64.wrap x = x := IntWalk.i64_in x ⟨by omega, by omega⟩
theorem dlt_t {a b : Int} (h : a < b) : decide (a < b) = true := decide_eq_true h
theorem dlt_f {a b : Int} (h : b ≤ a) : decide (a < b) = false := decide_eq_false (by omega)
theorem dle_t {a b : Int} (h : a ≤ b) : decide (a ≤ b) = true := decide_eq_true h
theorem dle_f {a b : Int} (h : b < a) : decide (a ≤ b) = false := decide_eq_false (by omega)
theorem dgt_t {a b : Int} (h : b < a) : decide (a > b) = true := decide_eq_true h
theorem dgt_f {a b : Int} (h : a ≤ b) : decide (a > b) = false := decide_eq_false (by omega)
theorem dge_t {a b : Int} (h : b ≤ a) : decide (a ≥ b) = true := decide_eq_true h
theorem dge_f {a b : Int} (h : a < b) : decide (a ≥ b) = false := decide_eq_false (by omega)
theorem ibeq_t {a b : Int} (h : a = b) : (a == b) = true := beq_iff_eq.2 h
theorem ibeq_f {a b : Int} (h : a ≠ b) : (a == b) = false := beq_eq_false_iff_ne.2 h
theorem ibne_t {a b : Int} (h : a ≠ b) : (a != b) = true := bne_iff_ne.2 h
theorem ibne_f {a b : Int} (h : a = b) : (a != b) = false := by subst h; simp

/-- Records as cells. -/
def fl {A : Type} (e : A → List C) (l : List A) : List C := l.flatMap e
section
variable {A : Type} {e : A → List C} {m : Nat}
@[simp] theorem fl_nil : fl e [] = [] := rfl
theorem fl_cons (x : A) (l : List A) : fl e (x :: l) = e x ++ fl e l := by simp [fl]
theorem fl_append (l l' : List A) : fl e (l ++ l') = fl e l ++ fl e l' := by simp [fl]
theorem fl_snoc (l : List A) (x : A) : fl e l ++ e x = fl e (l ++ [x]) := by simp [fl]
theorem fl_length (h : ∀ x, (e x).length = m) : ∀ l : List A, (fl e l).length = l.length * m
  | [] => by simp [fl]
  | x :: l => by rw [fl_cons, List.length_append, h, fl_length h l, List.length_cons, Nat.succ_mul]; omega
theorem fl_drop (h : ∀ x, (e x).length = m) : ∀ (k : Nat) (l : List A), (fl e l).drop (k * m) = fl e (l.drop k)
  | 0, l => by simp
  | k + 1, [] => by simp [fl]
  | k + 1, x :: l => by
    rw [fl_cons, Nat.succ_mul, Nat.add_comm, List.drop_append]
    rw [show (e x).drop (m + k * m) = [] from List.drop_eq_nil_of_le (by rw [h]; omega), h, Nat.add_sub_cancel_left, List.nil_append, fl_drop h k l]
    rfl
theorem fl_take (h : ∀ x, (e x).length = m) : ∀ (k : Nat) (l : List A), (fl e l).take (k * m) = fl e (l.take k)
  | 0, l => by simp
  | k + 1, [] => by simp [fl]
  | k + 1, x :: l => by
    rw [fl_cons, Nat.succ_mul, Nat.add_comm, List.take_append]
    rw [List.take_of_length_le (by rw [h]; omega), h, Nat.add_sub_cancel_left, fl_take h k l, List.take_succ_cons, fl_cons]
theorem fl_at (h : ∀ x, (e x).length = m) {k : Nat} {l : List A} (hk : k < l.length) : (fl e l).drop (k * m) = e l[k] ++ fl e (l.drop (k + 1)) := by
  rw [fl_drop h, List.drop_eq_getElem_cons hk, fl_cons]
theorem fl_div (hm : 0 < m) (h : ∀ x, (e x).length = m) (l : List A) : (fl e l).length / m = l.length := by rw [fl_length h, Nat.mul_div_cancel _ hm]
end

/-- The first that has a property, or none has it. -/
theorem first_or_none (P : Nat → Prop) [DecidablePred P] (n : Nat) : (∀ j, j < n → ¬ P j) ∨ ∃ k, k < n ∧ P k ∧ ∀ j, j < k → ¬ P j := by
  induction n with
  | zero => left; intro j hj; omega
  | succ n ih =>
    rcases ih with ih | ⟨k, h1, h2, h3⟩
    · by_cases h : P n
      · exact .inr ⟨n, by omega, h, ih⟩
      · left; intro j hj; by_cases e : j = n
        · subst e; exact h
        · exact ih j (by omega)
    · exact .inr ⟨k, by omega, h2, h3⟩
theorem iter_runx {A : Type} {body : A → Option (Nat × A)} {x : A} {fu : Nat} (f : Nat → A) (e : Nat) (z : A) (k : Nat) (hx : x = f 0) (h : ∀ j, j < k → body (f j) = some (0, f (j + 1))) (he : body (f k) = some (e + 1, z)) (hf : k < fu) : iter body fu x = some (e, z) := by
  rw [hx]; exact iter_run f e z k 0 fu (fun j _ hj => h j (by omega)) (by rw [Nat.zero_add]; exact he) hf
theorem iter_measx {A : Type} {body : A → Option (Nat × A)} {x : A} {fu : Nat} (J : A → Prop) (m : A → Nat) (e : Nat) (z : A) (hx : J x) (hm : m x < fu) (h : ∀ y, J y → (∃ y', body y = some (0, y') ∧ J y' ∧ m y' < m y) ∨ body y = some (e + 1, z)) : iter body fu x = some (e, z) := by
  obtain ⟨e', z', h1, h2, h3⟩ := iter_meas (body := body) J m (fun e' z' => e' = e ∧ z' = z) (fun y hy => (h y hy).imp id fun hh => ⟨e, z, hh, rfl, rfl⟩) fu x hx hm
  rw [h1, h2, h3]
theorem iter_s {A : Type} (body : A → Option (Nat × A)) (n : Nat) (x : A) : iter body (n + 1) x = (body x).bind fun p => natD p.1 (iter body n p.2) fun m => some (m, p.2) := by
  simp only [iter]
  congr 1
end Go.PM
/- Numbers that are read from a list; counts and histories as cells. -/
namespace Go.Proofs.Ytofalpngdbinbaa
open Go Go.PM

/-- A reader: what it reads, how many are read. -/
def srcC (l : List Int) (i : Nat) : List C := [C.sl l.length (ints l), C.v (.int .i64 (i : Nat))]
abbrev srcO (l : List Int) (i : Nat) : PM.Obj := .ob ty_synoptickeep_Src 0 (srcC l i)

theorem sp_Mod (fu d : Nat) (a n : Int) (hn : 1 ≤ n ∧ n ≤ 4611686018427387904) : ∃ v, cl fu (d + 1) fn_synoptickeep_Mod [I a, I n] [] = some ⟨I v, [], none⟩ ∧ 0 ≤ v ∧ v < n := by
  rw [eq_synoptickeep_Mod]
  have h1 : -n < Int.tmod a n := by have := Int.lt_tmod_of_pos a (show 0 < n by omega); omega
  have h2 : Int.tmod a n < n := Int.tmod_lt_of_pos a (by omega)
  simp only [show decide (n < 1) = false from decide_eq_false (by omega), cf, show (n == 0) = false by rw [beq_eq_false_iff_ne]; omega, Bool.not_false, need_true]
  by_cases h : Int.tmod a n < 0
  · rw [decide_eq_true h, IntWalk.i64_in _ ⟨by omega, by omega⟩]
    exact ⟨_, rfl, by omega, by omega⟩
  · rw [decide_eq_false h]
    exact ⟨_, rfl, by omega, h2⟩

theorem sp_New (fu d : Nat) (l : List Int) : cl fu (d + 1) fn_synoptickeep_New [V.c (C.sl l.length (ints l))] [] = some ⟨V.ptr 1000000 0, [srcO (l.take 2000) 0], none⟩ := by
  rw [eq_synoptickeep_New]
  unfold srcO srcC
  by_cases h : 2000 < l.length
  · simp only [if_pos (show (2000 : Int) < (l.length : Int) by omega), decide_eq_true (show (0 : Int) ≤ 2000 by omega), decide_eq_true (show (2000 : Int) ≤ (l.length : Int) by omega), Bool.and_self, need_true, show (2000 : Int).toNat = 2000 from rfl, Nat.mul_one, ik_take, List.length_take, Nat.min_eq_left (Nat.le_of_lt h)]
    rfl
  · simp only [if_neg (show ¬ (2000 : Int) < (l.length : Int) by omega), decide_eq_true (show (0 : Int) ≤ (l.length : Int) by omega), decide_eq_true (Int.le_refl (l.length : Int)), Bool.and_self, need_true, Int.toNat_natCast, Nat.mul_one, ik_take, List.take_length, List.take_of_length_le (show l.length ≤ 2000 by omega)]
    rfl

theorem sp_Raw (fu d : Nat) (l : List Int) (i : Nat) (hl : l.length ≤ 2000) : ∃ (v : Int) (j : Nat), cl fu (d + 1) fn_synoptickeep_Src_Raw [V.ptr 1000000 0] [srcO l i] = some ⟨I v, [srcO l j], none⟩ := by
  unfold srcO srcC
  rw [eq_synoptickeep_Src_Raw]
  simp only [asSl_sl]
  by_cases h : i < l.length
  · rw [decide_eq_false (show ¬ (i : Int) ≥ (l.length : Int) by omega)]
    simp only [cf]
    rw [IntWalk.i64_in ((i : Int) + 1) ⟨by omega, by omega⟩, show (i : Int) + 1 - 1 = i by omega, IntWalk.i64_in (i : Int) ⟨by omega, by omega⟩]
    simp only [inR_nat h, need_true, Int.toNat_natCast, Nat.mul_one, unc_ik h, asI_int]
    exact ⟨l[i], i + 1, by simp⟩
  · rw [decide_eq_true (show (i : Int) ≥ (l.length : Int) by omega)]
    exact ⟨0, i, rfl⟩

theorem sp_N (fu d : Nat) (l : List Int) (i : Nat) (hl : l.length ≤ 2000) (n : Int) (hn : 1 ≤ n ∧ n ≤ 4611686018427387904) :
    ∃ (v : Int) (j : Nat), cl fu (d + 2) fn_synoptickeep_Src_N [V.ptr 1000000 0, I n] [srcO l i] = some ⟨I v, [srcO l j], none⟩ ∧ 0 ≤ v ∧ v < n := by
  obtain ⟨w, j, h1⟩ := sp_Raw fu d l i hl
  obtain ⟨v, h2, h3, h4⟩ := sp_Mod fu d w n hn
  refine ⟨v, j, ?_, h3, h4⟩
  unfold srcO srcC at h1 ⊢
  rw [eq_synoptickeep_Src_N, h1]
  simp only [obs, uncO_cons, rO_ob, beqN_self, Bool.and_self, need_true, List.length_cons, List.length_nil, Nat.zero_add, Nat.reduceAdd, unc_cons, asI_int, rC_c, h2]

theorem sp_Range (fu d : Nat) (l : List Int) (i : Nat) (hl : l.length ≤ 2000) (lo hi : Int) (h : lo ≤ hi) (hb : -2305843009213693952 ≤ lo ∧ hi ≤ 2305843009213693951) :
    ∃ (v : Int) (j : Nat), cl fu (d + 3) fn_synoptickeep_Src_Range [V.ptr 1000000 0, I lo, I hi] [srcO l i] = some ⟨I v, [srcO l j], none⟩ ∧ lo ≤ v ∧ v ≤ hi := by
  obtain ⟨v, j, h1, h2, h3⟩ := sp_N fu d l i hl (hi - lo + 1) ⟨by omega, by omega⟩
  refine ⟨lo + v, j, ?_, by omega, by omega⟩
  unfold srcO srcC at h1 ⊢
  rw [eq_synoptickeep_Src_Range, IntWalk.i64_in (hi - lo) ⟨by omega, by omega⟩, IntWalk.i64_in (hi - lo + 1) ⟨by omega, by omega⟩, h1]
  simp only [obs, uncO_cons, rO_ob, beqN_self, Bool.and_self, need_true, List.length_cons, List.length_nil, Nat.zero_add, Nat.reduceAdd, unc_cons, asI_int, rC_c]
  rw [IntWalk.i64_in (lo + v) ⟨by omega, by omega⟩]

theorem sp_Pick (fu d : Nat) (l : List Int) (i : Nat) (hl : l.length ≤ 2000) (q : List Int) (hq : 1 ≤ q.length ∧ q.length ≤ 1000000) :
    ∃ (v : Int) (j : Nat), cl fu (d + 3) fn_synoptickeep_Src_Pick [V.ptr 1000000 0, V.c (C.sl q.length (ints q))] [srcO l i] = some ⟨I v, [srcO l j], none⟩ ∧ v ∈ q := by
  obtain ⟨v, j, h1, h2, h3⟩ := sp_N fu d l i hl (q.length : Int) ⟨by omega, by omega⟩
  obtain ⟨k, rfl⟩ : ∃ k : Nat, v = k := ⟨v.toNat, by omega⟩
  have hk : k < q.length := by omega
  refine ⟨q[k], j, ?_, List.getElem_mem hk⟩
  unfold srcO srcC at h1 ⊢
  rw [eq_synoptickeep_Src_Pick, h1]
  simp only [obs, uncO_cons, rO_ob, beqN_self, Bool.and_self, need_true, List.length_cons, List.length_nil, Nat.zero_add, Nat.reduceAdd, unc_cons, asI_int, rC_c, inR_nat hk, Int.toNat_natCast, Nat.mul_one, unc_ik hk]

/-- A count. -/
structure Cnt where
  nm : ByteArray
  t : Int
  r : Int
def cc (c : Cnt) : List C := [C.v (.string c.nm), C.v (.int .i64 c.t), C.v (.int .i64 c.r)]
theorem cc_length (c : Cnt) : (cc c).length = 3 := rfl
def cyC (l : List Cnt) : C := .sl l.length (fl cc l)
def cycs (cy : List (List Cnt)) : List C := cy.map cyC
def sc (s : ByteArray) : List C := [C.v (.string s)]
theorem sc_length (s : ByteArray) : (sc s).length = 1 := rfl
theorem strs_fl (l : List ByteArray) : strs l = fl sc l := by
  induction l with
  | nil => rfl
  | cons a l ih => simp only [strs, List.map_cons, fl_cons, sc] at ih ⊢; rw [ih]; rfl

theorem asSl_nrm {R : Type} {c : C} {n : Nat} {cs : List C} (h : nrm c = .sl n cs) (k : Nat → List C → Option R) : asSl c k = k n cs := by
  cases c with
  | nl => simp only [nrm, C.sl.injEq] at h; obtain ⟨rfl, rfl⟩ := h; rfl
  | sl n' cs' => simp only [nrm, C.sl.injEq] at h; obtain ⟨rfl, rfl⟩ := h; rfl
  | _ => simp [nrm] at h
theorem iter_noYl_sl {n : Nat} {cs : List C} : noYl [V.c (.sl n cs)] = true := rfl

theorem pr_contains (fu d : Nat) (s : ByteArray) : cl fu (d + 1) fn_strings_ContainsFunc [V.c (.v (.string s)), V.c (.fn fn_group_Name_1 [])] [] = some ⟨B (hasRune oddRune s), [], none⟩ := by kernel_rfl
theorem pr_keys (fu d : Nat) (kt et : TypeId) (ka va : Option Nat) (es : List (List C × List C)) : cl fu (d + 1) fn_maps_Keys_map_string_api_Count_string_api_Count [V.c (.mp kt et ka va es)] [] = some ⟨V.c (.fn 62 [.bx (.mp kt et ka va es)]), [], none⟩ := by kernel_rfl
theorem pr_sorted (fu d : Nat) (kt et : TypeId) (va : Option Nat) (es : List (List C × List C)) (ks : List ByteArray) (h : unKeys es = some ks) (h2 : okKeys ks) :
    cl fu (d + 1) fn_slices_Sorted_string [V.c (.fn 62 [.bx (.mp kt et none va es)])] [] = some ⟨V.c (.sl ks.length (strs (sortB ks))), [], none⟩ := by
  have e : cl fu (d + 1) fn_slices_Sorted_string [V.c (.fn 62 [.bx (.mp kt et none va es)])] [] = (unKeys es).bind fun ks => need (Nat.beq 62 62 && decide (okKeys ks)) (some ⟨V.c (.sl ks.length (strs (sortB ks))), [], none⟩) := by kernel_rfl
  rw [e, h]
  simp [h2, need]

/-- A station's name. -/
def nameOk (s : ByteArray) : Prop := s.size = 5 ∧ hasRune oddRune s = false
theorem sp_Name (fu d : Nat) {s : ByteArray} (h : nameOk s) : cl fu (d + 2) fn_group_Name [V.c (.v (.string s))] [] = some ⟨B true, [], none⟩ := by
  rw [eq_group_Name, pr_contains, h.2]
  rw [h.1]; rfl

def ltS (a b : ByteArray) : Bool := Op.bytesLess a.toList b.toList
def asc (l : List ByteArray) : Prop := ∀ (j : Nat) (a b : ByteArray), l[j]? = some a → l[j + 1]? = some b → ltS a b = true
def cntOk (c : Cnt) : Prop := nameOk c.nm ∧ (0 ≤ c.t ∧ c.t ≤ 100000) ∧ (0 ≤ c.r ∧ c.r ≤ c.t)
def cycleOk (l : List Cnt) : Prop := l.length ≤ 150 ∧ (∀ c ∈ l, cntOk c) ∧ asc (l.map Cnt.nm)
def histOk (cy : List (List Cnt)) (nm : List ByteArray) : Prop := cy.length ≤ 12 ∧ (∀ l ∈ cy, cycleOk l) ∧ nm.length ≤ 150 ∧ (∀ s ∈ nm, nameOk s) ∧ asc nm

end Go.Proofs.Ytofalpngdbinbaa
/- Where no element of a list has a property; valid histories. -/
namespace Go.Proofs.Ytofalpngdbinbaa
open Go Go.PM

section
variable (fu d : Nat) (hf : 18446744073709551616 ≤ fu)
include hf
theorem no_sapi (k1 : Nat) (l : List Cnt) (hl : l.length ≤ 1000) (h : ∀ c ∈ l, cl fu d k1 [V.agg (cc c)] [] = some ⟨B false, [], none⟩) :
    cl fu (d + 2) fn_slices_ContainsFunc_sapi_Count_api_Count [V.c (.sl l.length (fl cc l)), V.c (.fn k1 [])] [] = some ⟨B false, [], none⟩ := by
  rw [eq_slices_ContainsFunc_sapi_Count_api_Count, eq_slices_IndexFunc_sapi_Count_api_Count]
  rw [iter_runx (fun j : Nat => ((0 : Int), ((j : Nat) : Int), ())) 0 (0, (l.length : Int), ()) l.length ?_ ?_ ?_ (by omega)]
  · rfl
  · rfl
  · intro j hj
    have hc := h l[j] (List.getElem_mem hj)
    simp only [cc] at hc
    simp (disch := omega) only [obs, rC_c, rA_agg, rT_tup, rP_ptr, rW_own, rS_sb, rF_sb, uncV_cons, uncO_cons, nilV_nil, rO_ob, rN_ob, unc_cons, asI_int, asB_bool, asS_string, asSl_sl, asSl_nl, asFn_fn, asP_cp, nrm_sl, nrm_nl, need_true, ct, cf, bd_eq, natD_zero, natD_succ, natD_one, noYl_v, noYl_sl, noYl_nl, noYl_cp, noYl_fn, Bool.and_true, Bool.true_and, Bool.and_self, beqN_self, Bool.not_true, Bool.not_false, Bool.and_false, Bool.false_and, Bool.or_false, Bool.false_or, Bool.or_true, Bool.true_or, wrap_in, dlt_t, dlt_f, dle_t, dle_f, dgt_t, dgt_f, dge_t, dge_f, ibeq_t, ibeq_f, ibne_t, ibne_f, inR_int, beqN_eq, bleN_le, Int.toNat_natCast, fl_at cc_length hj, cc, List.cons_append, hc]
    rfl
  · simp (disch := omega) only [obs, rC_c, rA_agg, rT_tup, rP_ptr, rW_own, rS_sb, rF_sb, uncV_cons, uncO_cons, nilV_nil, rO_ob, rN_ob, unc_cons, asI_int, asB_bool, asS_string, asSl_sl, asSl_nl, asFn_fn, asP_cp, nrm_sl, nrm_nl, need_true, ct, cf, bd_eq, natD_zero, natD_succ, natD_one, noYl_v, noYl_sl, noYl_nl, noYl_cp, noYl_fn, Bool.and_true, Bool.true_and, Bool.and_self, beqN_self, Bool.not_true, Bool.not_false, Bool.and_false, Bool.false_and, Bool.or_false, Bool.false_or, Bool.or_true, Bool.true_or, wrap_in, dlt_t, dlt_f, dle_t, dle_f, dgt_t, dgt_f, dge_t, dge_f, ibeq_t, ibeq_f, ibne_t, ibne_f, inR_int, beqN_eq, bleN_le]
theorem no_sapi1 (k1 : Nat) (x : C) (l : List Cnt) (hl : l.length ≤ 1000) (h : ∀ c ∈ l, cl fu d k1 [V.agg (cc c), V.c x] [] = some ⟨B false, [], none⟩) :
    cl fu (d + 2) fn_slices_ContainsFunc_sapi_Count_api_Count [V.c (.sl l.length (fl cc l)), V.c (.fn k1 [x])] [] = some ⟨B false, [], none⟩ := by
  rw [eq1_slices_ContainsFunc_sapi_Count_api_Count, eq1_slices_IndexFunc_sapi_Count_api_Count]
  rw [iter_runx (fun j : Nat => ((0 : Int), ((j : Nat) : Int), ())) 0 (0, (l.length : Int), ()) l.length ?_ ?_ ?_ (by omega)]
  · rfl
  · rfl
  · intro j hj
    have hc := h l[j] (List.getElem_mem hj)
    simp only [cc] at hc
    simp (disch := omega) only [obs, rC_c, rA_agg, rT_tup, rP_ptr, rW_own, rS_sb, rF_sb, uncV_cons, uncO_cons, nilV_nil, rO_ob, rN_ob, unc_cons, asI_int, asB_bool, asS_string, asSl_sl, asSl_nl, asFn_fn, asP_cp, nrm_sl, nrm_nl, need_true, ct, cf, bd_eq, natD_zero, natD_succ, natD_one, noYl_v, noYl_sl, noYl_nl, noYl_cp, noYl_fn, Bool.and_true, Bool.true_and, Bool.and_self, beqN_self, Bool.not_true, Bool.not_false, Bool.and_false, Bool.false_and, Bool.or_false, Bool.false_or, Bool.or_true, Bool.true_or, wrap_in, dlt_t, dlt_f, dle_t, dle_f, dgt_t, dgt_f, dge_t, dge_f, ibeq_t, ibeq_f, ibne_t, ibne_f, inR_int, beqN_eq, bleN_le, Int.toNat_natCast, fl_at cc_length hj, cc, List.cons_append, hc]
    rfl
  · simp (disch := omega) only [obs, rC_c, rA_agg, rT_tup, rP_ptr, rW_own, rS_sb, rF_sb, uncV_cons, uncO_cons, nilV_nil, rO_ob, rN_ob, unc_cons, asI_int, asB_bool, asS_string, asSl_sl, asSl_nl, asFn_fn, asP_cp, nrm_sl, nrm_nl, need_true, ct, cf, bd_eq, natD_zero, natD_succ, natD_one, noYl_v, noYl_sl, noYl_nl, noYl_cp, noYl_fn, Bool.and_true, Bool.true_and, Bool.and_self, beqN_self, Bool.not_true, Bool.not_false, Bool.and_false, Bool.false_and, Bool.or_false, Bool.false_or, Bool.or_true, Bool.true_or, wrap_in, dlt_t, dlt_f, dle_t, dle_f, dgt_t, dgt_f, dge_t, dge_f, ibeq_t, ibeq_f, ibne_t, ibne_f, inR_int, beqN_eq, bleN_le]
theorem no_ssapi (k1 : Nat) (cy : List (List Cnt)) (hl : cy.length ≤ 1000) (h : ∀ l ∈ cy, cl fu d k1 [V.c (cyC l)] [] = some ⟨B false, [], none⟩) :
    cl fu (d + 2) fn_slices_ContainsFunc_ssapi_Count_sapi_Count [V.c (.sl cy.length (cycs cy)), V.c (.fn k1 [])] [] = some ⟨B false, [], none⟩ := by
  rw [eq_slices_ContainsFunc_ssapi_Count_sapi_Count, eq_slices_IndexFunc_ssapi_Count_sapi_Count]
  rw [iter_runx (fun j : Nat => ((0 : Int), ((j : Nat) : Int), ())) 0 (0, (cy.length : Int), ()) cy.length ?_ ?_ ?_ (by omega)]
  · rfl
  · rfl
  · intro j hj
    have hc := h cy[j] (List.getElem_mem hj)
    unfold cyC at hc
    have hd : List.drop j (cycs cy) = cyC cy[j] :: List.drop (j + 1) (cycs cy) := by
      rw [List.drop_eq_getElem_cons (show j < (cycs cy).length by simpa [cycs] using hj)]; simp [cycs]
    simp (disch := omega) only [obs, rC_c, rA_agg, rT_tup, rP_ptr, rW_own, rS_sb, rF_sb, uncV_cons, uncO_cons, nilV_nil, rO_ob, rN_ob, unc_cons, asI_int, asB_bool, asS_string, asSl_sl, asSl_nl, asFn_fn, asP_cp, nrm_sl, nrm_nl, need_true, ct, cf, bd_eq, natD_zero, natD_succ, natD_one, noYl_v, noYl_sl, noYl_nl, noYl_cp, noYl_fn, Bool.and_true, Bool.true_and, Bool.and_self, beqN_self, Bool.not_true, Bool.not_false, Bool.and_false, Bool.false_and, Bool.or_false, Bool.false_or, Bool.or_true, Bool.true_or, wrap_in, dlt_t, dlt_f, dle_t, dle_f, dgt_t, dgt_f, dge_t, dge_f, ibeq_t, ibeq_f, ibne_t, ibne_f, inR_int, beqN_eq, bleN_le, Int.toNat_natCast, Nat.mul_one, hd, hc, cyC]
    rfl
  · simp (disch := omega) only [obs, rC_c, rA_agg, rT_tup, rP_ptr, rW_own, rS_sb, rF_sb, uncV_cons, uncO_cons, nilV_nil, rO_ob, rN_ob, unc_cons, asI_int, asB_bool, asS_string, asSl_sl, asSl_nl, asFn_fn, asP_cp, nrm_sl, nrm_nl, need_true, ct, cf, bd_eq, natD_zero, natD_succ, natD_one, noYl_v, noYl_sl, noYl_nl, noYl_cp, noYl_fn, Bool.and_true, Bool.true_and, Bool.and_self, beqN_self, Bool.not_true, Bool.not_false, Bool.and_false, Bool.false_and, Bool.or_false, Bool.false_or, Bool.or_true, Bool.true_or, wrap_in, dlt_t, dlt_f, dle_t, dle_f, dgt_t, dgt_f, dge_t, dge_f, ibeq_t, ibeq_f, ibne_t, ibne_f, inR_int, beqN_eq, bleN_le]
theorem no_ssapi1 (k1 : Nat) (x : C) (cy : List (List Cnt)) (hl : cy.length ≤ 1000) (h : ∀ l ∈ cy, cl fu d k1 [V.c (cyC l), V.c x] [] = some ⟨B false, [], none⟩) :
    cl fu (d + 2) fn_slices_ContainsFunc_ssapi_Count_sapi_Count [V.c (.sl cy.length (cycs cy)), V.c (.fn k1 [x])] [] = some ⟨B false, [], none⟩ := by
  rw [eq1_slices_ContainsFunc_ssapi_Count_sapi_Count, eq1_slices_IndexFunc_ssapi_Count_sapi_Count]
  rw [iter_runx (fun j : Nat => ((0 : Int), ((j : Nat) : Int), ())) 0 (0, (cy.length : Int), ()) cy.length ?_ ?_ ?_ (by omega)]
  · rfl
  · rfl
  · intro j hj
    have hc := h cy[j] (List.getElem_mem hj)
    unfold cyC at hc
    have hd : List.drop j (cycs cy) = cyC cy[j] :: List.drop (j + 1) (cycs cy) := by
      rw [List.drop_eq_getElem_cons (show j < (cycs cy).length by simpa [cycs] using hj)]; simp [cycs]
    simp (disch := omega) only [obs, rC_c, rA_agg, rT_tup, rP_ptr, rW_own, rS_sb, rF_sb, uncV_cons, uncO_cons, nilV_nil, rO_ob, rN_ob, unc_cons, asI_int, asB_bool, asS_string, asSl_sl, asSl_nl, asFn_fn, asP_cp, nrm_sl, nrm_nl, need_true, ct, cf, bd_eq, natD_zero, natD_succ, natD_one, noYl_v, noYl_sl, noYl_nl, noYl_cp, noYl_fn, Bool.and_true, Bool.true_and, Bool.and_self, beqN_self, Bool.not_true, Bool.not_false, Bool.and_false, Bool.false_and, Bool.or_false, Bool.false_or, Bool.or_true, Bool.true_or, wrap_in, dlt_t, dlt_f, dle_t, dle_f, dgt_t, dgt_f, dge_t, dge_f, ibeq_t, ibeq_f, ibne_t, ibne_f, inR_int, beqN_eq, bleN_le, Int.toNat_natCast, Nat.mul_one, hd, hc, cyC]
    rfl
  · simp (disch := omega) only [obs, rC_c, rA_agg, rT_tup, rP_ptr, rW_own, rS_sb, rF_sb, uncV_cons, uncO_cons, nilV_nil, rO_ob, rN_ob, unc_cons, asI_int, asB_bool, asS_string, asSl_sl, asSl_nl, asFn_fn, asP_cp, nrm_sl, nrm_nl, need_true, ct, cf, bd_eq, natD_zero, natD_succ, natD_one, noYl_v, noYl_sl, noYl_nl, noYl_cp, noYl_fn, Bool.and_true, Bool.true_and, Bool.and_self, beqN_self, Bool.not_true, Bool.not_false, Bool.and_false, Bool.false_and, Bool.or_false, Bool.false_or, Bool.or_true, Bool.true_or, wrap_in, dlt_t, dlt_f, dle_t, dle_f, dgt_t, dgt_f, dge_t, dge_f, ibeq_t, ibeq_f, ibne_t, ibne_f, inR_int, beqN_eq, bleN_le]
theorem no_sstr (k1 : Nat) (l : List ByteArray) (hl : l.length ≤ 1000) (h : ∀ s ∈ l, cl fu d k1 [V.c (.v (.string s))] [] = some ⟨B false, [], none⟩) :
    cl fu (d + 2) fn_slices_ContainsFunc_sstring_string [V.c (.sl l.length (strs l)), V.c (.fn k1 [])] [] = some ⟨B false, [], none⟩ := by
  rw [eq_slices_ContainsFunc_sstring_string, eq_slices_IndexFunc_sstring_string]
  rw [iter_runx (fun j : Nat => ((0 : Int), ((j : Nat) : Int), ())) 0 (0, (l.length : Int), ()) l.length ?_ ?_ ?_ (by omega)]
  · rfl
  · rfl
  · intro j hj
    have hc := h l[j] (List.getElem_mem hj)
    rw [strs_fl]
    simp (disch := omega) only [obs, rC_c, rA_agg, rT_tup, rP_ptr, rW_own, rS_sb, rF_sb, uncV_cons, uncO_cons, nilV_nil, rO_ob, rN_ob, unc_cons, asI_int, asB_bool, asS_string, asSl_sl, asSl_nl, asFn_fn, asP_cp, nrm_sl, nrm_nl, need_true, ct, cf, bd_eq, natD_zero, natD_succ, natD_one, noYl_v, noYl_sl, noYl_nl, noYl_cp, noYl_fn, Bool.and_true, Bool.true_and, Bool.and_self, beqN_self, Bool.not_true, Bool.not_false, Bool.and_false, Bool.false_and, Bool.or_false, Bool.false_or, Bool.or_true, Bool.true_or, wrap_in, dlt_t, dlt_f, dle_t, dle_f, dgt_t, dgt_f, dge_t, dge_f, ibeq_t, ibeq_f, ibne_t, ibne_f, inR_int, beqN_eq, bleN_le, Int.toNat_natCast, fl_at sc_length hj, sc, List.cons_append, hc]
    rfl
  · simp (disch := omega) only [obs, rC_c, rA_agg, rT_tup, rP_ptr, rW_own, rS_sb, rF_sb, uncV_cons, uncO_cons, nilV_nil, rO_ob, rN_ob, unc_cons, asI_int, asB_bool, asS_string, asSl_sl, asSl_nl, asFn_fn, asP_cp, nrm_sl, nrm_nl, need_true, ct, cf, bd_eq, natD_zero, natD_succ, natD_one, noYl_v, noYl_sl, noYl_nl, noYl_cp, noYl_fn, Bool.and_true, Bool.true_and, Bool.and_self, beqN_self, Bool.not_true, Bool.not_false, Bool.and_false, Bool.false_and, Bool.or_false, Bool.false_or, Bool.or_true, Bool.true_or, wrap_in, dlt_t, dlt_f, dle_t, dle_f, dgt_t, dgt_f, dge_t, dge_f, ibeq_t, ibeq_f, ibne_t, ibne_f, inR_int, beqN_eq, bleN_le]

theorem sp_ascending (l : List ByteArray) (hl : l.length ≤ 1000) (h : asc l) : cl fu (d + 1) fn_blacklist_ascending [V.c (.sl l.length (strs l))] [] = some ⟨B true, [], none⟩ := by
  rw [eq_blacklist_ascending]
  rw [iter_runx (fun j : Nat => (false, (((j + 1 : Nat) : Nat) : Int), ())) 0 (false, ((l.length - 1 + 1 : Nat) : Int), ()) (l.length - 1) ?_ ?_ ?_ (by omega)]
  · rfl
  · rfl
  · intro j hj
    have h1 : j < l.length := by omega
    have h2 : j + 1 < l.length := by omega
    have hc := h j l[j] l[j + 1] (by simp [h1]) (by simp [h2])
    unfold ltS at hc
    rw [strs_fl]
    have e : ((j + 1 : Nat) : Int) - 1 = (j : Int) := by omega
    simp (disch := omega) only [obs, rC_c, rA_agg, rT_tup, rP_ptr, rW_own, rS_sb, rF_sb, uncV_cons, uncO_cons, nilV_nil, rO_ob, rN_ob, unc_cons, asI_int, asB_bool, asS_string, asSl_sl, asSl_nl, asFn_fn, asP_cp, nrm_sl, nrm_nl, need_true, ct, cf, bd_eq, natD_zero, natD_succ, natD_one, noYl_v, noYl_sl, noYl_nl, noYl_cp, noYl_fn, Bool.and_true, Bool.true_and, Bool.and_self, beqN_self, Bool.not_true, Bool.not_false, Bool.and_false, Bool.false_and, Bool.or_false, Bool.false_or, Bool.or_true, Bool.true_or, wrap_in, dlt_t, dlt_f, dle_t, dle_f, dgt_t, dgt_f, dge_t, dge_f, ibeq_t, ibeq_f, ibne_t, ibne_f, inR_int, beqN_eq, bleN_le, e, Int.toNat_natCast, fl_at sc_length h1, fl_at sc_length h2, sc, List.cons_append, hc]
    rfl
  · simp (disch := omega) only [obs, rC_c, rA_agg, rT_tup, rP_ptr, rW_own, rS_sb, rF_sb, uncV_cons, uncO_cons, nilV_nil, rO_ob, rN_ob, unc_cons, asI_int, asB_bool, asS_string, asSl_sl, asSl_nl, asFn_fn, asP_cp, nrm_sl, nrm_nl, need_true, ct, cf, bd_eq, natD_zero, natD_succ, natD_one, noYl_v, noYl_sl, noYl_nl, noYl_cp, noYl_fn, Bool.and_true, Bool.true_and, Bool.and_self, beqN_self, Bool.not_true, Bool.not_false, Bool.and_false, Bool.false_and, Bool.or_false, Bool.false_or, Bool.or_true, Bool.true_or, wrap_in, dlt_t, dlt_f, dle_t, dle_f, dgt_t, dgt_f, dge_t, dge_f, ibeq_t, ibeq_f, ibne_t, ibne_f, inR_int, beqN_eq, bleN_le]

theorem sp_names (l : List Cnt) (hl : l.length ≤ 1000) : cl fu (d + 1) fn_blacklist_names [V.c (.sl l.length (fl cc l))] [] = some ⟨V.c (.sl l.length (strs (l.map Cnt.nm))), [], none⟩ := by
  rw [eq_blacklist_names]
  have hsl : ∀ l : List ByteArray, (strs l).length = l.length := fun l => by simp [strs]
  rw [iter_runx (fun j : Nat => (strs ((l.take j).map Cnt.nm), ((j : Nat) : Int), ())) 0 (strs (l.map Cnt.nm), (l.length : Int), ()) l.length ?_ ?_ ?_ (by omega)]
  · simp (disch := omega) only [obs, rC_c, rA_agg, rT_tup, rP_ptr, rW_own, rS_sb, rF_sb, uncV_cons, uncO_cons, nilV_nil, rO_ob, rN_ob, unc_cons, asI_int, asB_bool, asS_string, asSl_sl, asSl_nl, asFn_fn, asP_cp, nrm_sl, nrm_nl, need_true, ct, cf, bd_eq, natD_zero, natD_succ, natD_one, noYl_v, noYl_sl, noYl_nl, noYl_cp, noYl_fn, Bool.and_true, Bool.true_and, Bool.and_self, beqN_self, Bool.not_true, Bool.not_false, Bool.and_false, Bool.false_and, Bool.or_false, Bool.false_or, Bool.or_true, Bool.true_or, wrap_in, dlt_t, dlt_f, dle_t, dle_f, dgt_t, dgt_f, dge_t, dge_f, ibeq_t, ibeq_f, ibne_t, ibne_f, inR_int, beqN_eq, bleN_le, hsl, List.length_map, Nat.div_one, Nat.mul_one, Nat.zero_add]
    rw [List.take_of_length_le (by rw [hsl, List.length_map]; omega)]
  · rfl
  · intro j hj
    have ht : strs ((l.take (j + 1)).map Cnt.nm) = strs ((l.take j).map Cnt.nm) ++ [C.v (.string l[j].nm)] := by
      rw [List.take_succ_eq_append_getElem hj, List.map_append, strs, List.map_append]; rfl
    have hlt : (strs ((l.take j).map Cnt.nm)).length = j := by rw [hsl, List.length_map, List.length_take]; omega
    simp (disch := omega) only [obs, rC_c, rA_agg, rT_tup, rP_ptr, rW_own, rS_sb, rF_sb, uncV_cons, uncO_cons, nilV_nil, rO_ob, rN_ob, unc_cons, asI_int, asB_bool, asS_string, asSl_sl, asSl_nl, asFn_fn, asP_cp, nrm_sl, nrm_nl, need_true, ct, cf, bd_eq, natD_zero, natD_succ, natD_one, noYl_v, noYl_sl, noYl_nl, noYl_cp, noYl_fn, Bool.and_true, Bool.true_and, Bool.and_self, beqN_self, Bool.not_true, Bool.not_false, Bool.and_false, Bool.false_and, Bool.or_false, Bool.false_or, Bool.or_true, Bool.true_or, wrap_in, dlt_t, dlt_f, dle_t, dle_f, dgt_t, dgt_f, dge_t, dge_f, ibeq_t, ibeq_f, ibne_t, ibne_f, inR_int, beqN_eq, bleN_le, Int.toNat_natCast, fl_at cc_length hj, cc, List.cons_append, hlt, List.length_append, List.length_cons, List.length_nil, Nat.div_one, Nat.mul_one, Nat.zero_add, ht]
    rfl
  · simp (disch := omega) only [obs, rC_c, rA_agg, rT_tup, rP_ptr, rW_own, rS_sb, rF_sb, uncV_cons, uncO_cons, nilV_nil, rO_ob, rN_ob, unc_cons, asI_int, asB_bool, asS_string, asSl_sl, asSl_nl, asFn_fn, asP_cp, nrm_sl, nrm_nl, need_true, ct, cf, bd_eq, natD_zero, natD_succ, natD_one, noYl_v, noYl_sl, noYl_nl, noYl_cp, noYl_fn, Bool.and_true, Bool.true_and, Bool.and_self, beqN_self, Bool.not_true, Bool.not_false, Bool.and_false, Bool.false_and, Bool.or_false, Bool.false_or, Bool.or_true, Bool.true_or, wrap_in, dlt_t, dlt_f, dle_t, dle_f, dgt_t, dgt_f, dge_t, dge_f, ibeq_t, ibeq_f, ibne_t, ibne_f, inR_int, beqN_eq, bleN_le, hsl, List.length_map, List.length_take, Nat.div_one, Nat.mul_one, List.take_length]
end
end Go.Proofs.Ytofalpngdbinbaa
/- A valid history is found to be one. -/
namespace Go.Proofs.Ytofalpngdbinbaa
open Go Go.PM

section
variable (fu d : Nat) (hf : 18446744073709551616 ≤ fu)
theorem sp_Val2 {s : ByteArray} (h : nameOk s) : cl fu (d + 3) fn_blacklist_Validate_2 [V.c (.v (.string s))] [] = some ⟨B false, [], none⟩ := by
  rw [eq_blacklist_Validate_2, sp_Name fu d h]; rfl

theorem sp_valid {c : Cnt} (h : cntOk c) : cl fu (d + 1) fn_blacklist_valid [V.agg (cc c)] [] = some ⟨B true, [], none⟩ := by
  obtain ⟨_, ⟨h1, h2⟩, h3, h4⟩ := h
  unfold cc
  rw [eq_blacklist_valid]
  simp (disch := omega) only [obs, rC_c, rA_agg, rT_tup, rP_ptr, rW_own, rS_sb, rF_sb, uncV_cons, uncO_cons, nilV_nil, rO_ob, rN_ob, unc_cons, asI_int, asB_bool, asS_string, asSl_sl, asSl_nl, asFn_fn, asP_cp, nrm_sl, nrm_nl, need_true, ct, cf, bd_eq, natD_zero, natD_succ, natD_one, noYl_v, noYl_sl, noYl_nl, noYl_cp, noYl_fn, Bool.and_true, Bool.true_and, Bool.and_self, beqN_self, Bool.not_true, Bool.not_false, Bool.and_false, Bool.false_and, Bool.or_false, Bool.false_or, Bool.or_true, Bool.true_or, wrap_in, dlt_t, dlt_f, dle_t, dle_f, dgt_t, dgt_f, dge_t, dge_f, ibeq_t, ibeq_f, ibne_t, ibne_f, inR_int, beqN_eq, bleN_le]

include hf
theorem sp_Validate {h1 h2 : C} {cy : List (List Cnt)} {nm : List ByteArray} (e1 : nrm h1 = .sl cy.length (cycs cy)) (e2 : nrm h2 = .sl nm.length (strs nm)) (hok : histOk cy nm) :
    cl fu (d + 12) fn_blacklist_Validate [V.agg [h1, h2]] [] = some ⟨I 0, [], none⟩ := by
  obtain ⟨k1, k2, k3, k4, k5⟩ := hok
  have a1 := no_ssapi fu (d + 9) hf fn_blacklist_Validate_1 cy (by omega) fun l hl => by
    unfold cyC
    rw [eq_blacklist_Validate_1]
    have := (k2 l hl).1
    simp (disch := omega) only [obs, rC_c, rA_agg, rT_tup, rP_ptr, rW_own, rS_sb, rF_sb, uncV_cons, uncO_cons, nilV_nil, rO_ob, rN_ob, unc_cons, asI_int, asB_bool, asS_string, asSl_sl, asSl_nl, asFn_fn, asP_cp, nrm_sl, nrm_nl, need_true, ct, cf, bd_eq, natD_zero, natD_succ, natD_one, noYl_v, noYl_sl, noYl_nl, noYl_cp, noYl_fn, Bool.and_true, Bool.true_and, Bool.and_self, beqN_self, Bool.not_true, Bool.not_false, Bool.and_false, Bool.false_and, Bool.or_false, Bool.false_or, Bool.or_true, Bool.true_or, wrap_in, dlt_t, dlt_f, dle_t, dle_f, dgt_t, dgt_f, dge_t, dge_f, ibeq_t, ibeq_f, ibne_t, ibne_f, inR_int, beqN_eq, bleN_le]
  have a2 : cl fu (d + 11) fn_blacklist_some [V.agg [h1, h2], V.c (C.fn fn_blacklist_Validate_3 [C.cp [C.fn fn_blacklist_Validate_2 []]])] [] = some ⟨B false, [], none⟩ := by
    rw [eq1_blacklist_some, e1]
    rw [no_ssapi1 fu (d + 8) hf fn_blacklist_some_1 (C.cp [C.fn fn_blacklist_Validate_3 [C.cp [C.fn fn_blacklist_Validate_2 []]]]) cy (by omega) fun l hl => by
      unfold cyC
      rw [eq_blacklist_some_1]
      have hk := k2 l hl
      have := no_sapi1 fu (d + 5) hf fn_blacklist_Validate_3 (C.cp [C.fn fn_blacklist_Validate_2 []]) l (by have := hk.1; omega) fun c hc => by
        unfold cc
        rw [eq_blacklist_Validate_3, sp_Val2 fu (d + 1) (hk.2.1 c hc).1]
        rfl
      simp only [unc_cons]
      rw [this]
      rfl]
    rfl
  have a3 : cl fu (d + 11) fn_blacklist_some [V.agg [h1, h2], V.c (C.fn fn_blacklist_Validate_4 [])] [] = some ⟨B false, [], none⟩ := by
    rw [eq_blacklist_some, e1]
    rw [no_ssapi1 fu (d + 8) hf fn_blacklist_some_1 (C.cp [C.fn fn_blacklist_Validate_4 []]) cy (by omega) fun l hl => by
      unfold cyC
      rw [eq_blacklist_some_1]
      have hk := k2 l hl
      have := no_sapi fu (d + 5) hf fn_blacklist_Validate_4 l (by have := hk.1; omega) fun c hc => by
        have hv := sp_valid fu (d + 3) (hk.2.1 c hc)
        unfold cc at hv ⊢
        rw [eq_blacklist_Validate_4, hv]
        rfl
      simp only [unc_cons]
      rw [this]
      rfl]
    rfl
  have a4 := no_sstr fu (d + 9) hf fn_blacklist_Validate_2 nm (by omega) fun s hs => sp_Val2 fu (d + 6) (k4 s hs)
  have a5 := sp_ascending fu (d + 10) hf nm (by omega) k5
  have a6 := no_ssapi fu (d + 9) hf fn_blacklist_Validate_5 cy (by omega) fun l hl => by
    unfold cyC
    have hk := k2 l hl
    have hq := sp_ascending fu (d + 7) hf (l.map Cnt.nm) (by rw [List.length_map]; have := hk.1; omega) hk.2.2
    rw [List.length_map] at hq
    rw [eq_blacklist_Validate_5, sp_names fu (d + 7) hf l (by have := hk.1; omega)]
    simp only [obs, rC_c, rA_agg, rT_tup, rP_ptr, rW_own, rS_sb, rF_sb, uncV_cons, uncO_cons, nilV_nil, rO_ob, rN_ob, unc_cons, asI_int, asB_bool, asS_string, asSl_sl, asSl_nl, asFn_fn, asP_cp, nrm_sl, nrm_nl, need_true, ct, cf, bd_eq, natD_zero, natD_succ, natD_one, noYl_v, noYl_sl, noYl_nl, noYl_cp, noYl_fn, Bool.and_true, Bool.true_and, Bool.and_self, beqN_self, Bool.not_true, Bool.not_false, Bool.and_false, Bool.false_and, Bool.or_false, Bool.false_or, Bool.or_true, Bool.true_or, hq]
  rw [eq_blacklist_Validate, e1, e2]
  simp (disch := omega) only [obs, rC_c, rA_agg, rT_tup, rP_ptr, rW_own, rS_sb, rF_sb, uncV_cons, uncO_cons, nilV_nil, rO_ob, rN_ob, unc_cons, asI_int, asB_bool, asS_string, asSl_sl, asSl_nl, asFn_fn, asP_cp, nrm_sl, nrm_nl, need_true, ct, cf, bd_eq, natD_zero, natD_succ, natD_one, noYl_v, noYl_sl, noYl_nl, noYl_cp, noYl_fn, Bool.and_true, Bool.true_and, Bool.and_self, beqN_self, Bool.not_true, Bool.not_false, Bool.and_false, Bool.false_and, Bool.or_false, Bool.false_or, Bool.or_true, Bool.true_or, wrap_in, dlt_t, dlt_f, dle_t, dle_f, dgt_t, dgt_f, dge_t, dge_f, ibeq_t, ibeq_f, ibne_t, ibne_f, inR_int, beqN_eq, bleN_le, a1, a2, a3, a4, a5, a6, asSl_nrm e1, asSl_nrm e2]
end
end Go.Proofs.Ytofalpngdbinbaa
/- Strings; the sums of a history's counts, as a map's entries. -/
namespace Go.Proofs.Ytofalpngdbinbaa
open Go Go.PM

theorem loop_eq (bs : ByteArray) : ∀ (n i : Nat) (r : List UInt8), bs.size - i = n → ByteArray.toList.loop bs i r = r.reverse ++ bs.data.toList.drop i
  | 0, i, r, h => by
    unfold ByteArray.toList.loop
    have hs : bs.size = bs.data.toList.length := by rw [Array.length_toList]; rfl
    rw [if_neg (by omega), List.drop_eq_nil_of_le (by omega), List.append_nil]
  | n + 1, i, r, h => by
    unfold ByteArray.toList.loop
    have hs : bs.size = bs.data.toList.length := by rw [Array.length_toList]; rfl
    rw [if_pos (by omega), loop_eq bs n (i + 1) _ (by omega), List.drop_eq_getElem_cons (show i < bs.data.toList.length by omega)]
    have : bs.get! i = bs.data.toList[i]'(by omega) := by
      have hi : i < bs.data.size := by simpa using (show i < bs.data.toList.length by omega)
      simp [ByteArray.get!, getElem!_pos bs.data i hi]
    simp [this]
theorem toList_eq (bs : ByteArray) : bs.toList = bs.data.toList := by
  unfold ByteArray.toList; rw [loop_eq bs _ 0 [] rfl]; simp
theorem toList_inj {a b : ByteArray} (h : a.toList = b.toList) : a = b := by
  rw [toList_eq, toList_eq] at h
  cases a; cases b; simp at h; simp [h]

theorem toList_beq {a b : ByteArray} : (a.toList == b.toList) = decide (a = b) := by
  by_cases h : a = b
  · subst h; simp
  · rw [decide_eq_false h, beq_eq_false_iff_ne]; exact fun e => h (toList_inj e)

/-- An entry: a name and two sums. -/
abbrev Ent := ByteArray × Int × Int
def valC (q : Int × Int) : List C := [.v (.string ⟨#[]⟩), .v (.int .i64 q.1), .v (.int .i64 q.2)]
def ent (e : Ent) : List C × List C := ([.v (.string e.1)], valC e.2)
def look : List Ent → ByteArray → Nat → Option (Nat × Int × Int)
  | [], _, _ => none
  | e :: r, s, i => if e.1 = s then some (i, e.2) else look r s (i + 1)
def upd (M : List Ent) (s : ByteArray) (q : Int × Int) : List Ent := match look M s 0 with | some p => M.set p.1 (s, q) | none => M ++ [(s, q)]
def val (M : List Ent) (s : ByteArray) : Int × Int := match look M s 0 with | some p => p.2 | none => (0, 0)
def keys (M : List Ent) : List ByteArray := M.map (·.1)

theorem eqT_str (s e : ByteArray) : eqT Try.prog 20 ty_string [.v (.string s)] [.v (.string e)] = some (s.toList == e.toList) := by kernel_rfl
theorem mfind_ent (s : ByteArray) : ∀ (M : List Ent) (i : Nat), mfind Try.prog ty_string [.v (.string s)] (M.map ent) i = some ((look M s i).map fun q => (q.1, valC q.2))
  | [], i => rfl
  | e :: M, i => by
    simp only [List.map_cons, mfind, ent, eqT_str, toList_beq]
    by_cases h : e.1 = s
    · rw [decide_eq_true h.symm]
      simp [look, h, ceqs, ceq, need]
    · rw [decide_eq_false (fun e => h e.symm)]
      simp only [cond_false, look, if_neg h]
      exact mfind_ent s M (i + 1)
theorem mfd_ent (M : List Ent) (s : ByteArray) : mfd ty_string [.v (.string s)] (M.map ent) = some ((look M s 0).map fun q => (q.1, valC q.2)) := mfind_ent s M 0
theorem mput_ent (M : List Ent) (s : ByteArray) (q : Int × Int) : mput (M.map ent) ((look M s 0).map fun q => (q.1, valC q.2)) [.v (.string s)] (valC q) = (upd M s q).map ent := by
  unfold upd
  cases look M s 0 with
  | none => simp [mput, ent]
  | some p => simp [mput, ent, List.map_set]
theorem orZ_ent (M : List Ent) (s : ByteArray) : orZ ((look M s 0).map fun q => (q.1, valC q.2)) [.v (.string ⟨#[]⟩), .v (.int .i64 0), .v (.int .i64 0)] = valC (val M s) := by
  unfold val
  cases look M s 0 <;> rfl

theorem look_spec (s : ByteArray) : ∀ (M : List Ent) (i : Nat), (look M s i = none ∧ s ∉ keys M) ∨ ∃ j q, look M s i = some (i + j, q) ∧ M[j]? = some (s, q) ∧ ∀ k, k < j → (keys M)[k]? ≠ some s
  | [], i => .inl ⟨rfl, by simp [keys]⟩
  | e :: M, i => by
    by_cases h : e.1 = s
    · refine .inr ⟨0, e.2, by simp [look, h], by simp [← h], by simp⟩
    · rcases look_spec s M (i + 1) with ⟨h1, h2⟩ | ⟨j, q, h1, h2, h3⟩
      · exact .inl ⟨by simp [look, h, h1], by simp [keys] at h2 ⊢; exact ⟨fun e => h e.symm, h2⟩⟩
      · refine .inr ⟨j + 1, q, by simp [look, h, h1]; omega, by simpa using h2, fun k hk => ?_⟩
        cases k with
        | zero => simp [keys, h]
        | succ k => have := h3 k (by omega); simpa [keys] using this

theorem keys_upd (M : List Ent) (s : ByteArray) (q : Int × Int) : (s ∈ keys M ∧ keys (upd M s q) = keys M) ∨ (s ∉ keys M ∧ keys (upd M s q) = keys M ++ [s]) := by
  unfold upd
  rcases look_spec s M 0 with ⟨h1, h2⟩ | ⟨j, q', h1, h2, _⟩
  · rw [h1]; exact .inr ⟨h2, by simp [keys]⟩
  · have hm : s ∈ keys M := List.mem_map.2 ⟨_, List.mem_of_getElem? h2, rfl⟩
    rw [h1]
    refine .inl ⟨hm, ?_⟩
    simp only [keys, Nat.zero_add, List.map_set]
    apply List.ext_getElem?
    intro i
    rw [List.getElem?_set]
    split
    · rename_i e
      subst e
      have hj : j < M.length := (List.getElem?_eq_some_iff.1 h2).1
      rw [if_pos (by simpa using hj), List.getElem?_map, h2]; rfl
    · rfl
theorem nodup_upd {M : List Ent} (h : (keys M).Nodup) (s : ByteArray) (q : Int × Int) : (keys (upd M s q)).Nodup := by
  rcases keys_upd M s q with ⟨_, e⟩ | ⟨hn, e⟩
  · rw [e]; exact h
  · rw [e]
    exact List.nodup_append.2 ⟨h, by simp, fun a ha b hb => by simp at hb; subst hb; exact fun e => hn (e ▸ ha)⟩
theorem mem_upd (M : List Ent) (s s' : ByteArray) (q : Int × Int) : s' ∈ keys (upd M s q) ↔ s' = s ∨ s' ∈ keys M := by
  rcases keys_upd M s q with ⟨h, e⟩ | ⟨hn, e⟩
  · rw [e]; exact ⟨.inr, fun h' => h'.elim (fun e => e ▸ h) id⟩
  · rw [e]; simp [or_comm]

theorem look_append (s : ByteArray) (x : Ent) : ∀ (M : List Ent) (i : Nat), s ∉ keys M → look (M ++ [x]) s i = if x.1 = s then some (i + M.length, x.2) else none
  | [], i, _ => by simp [look]
  | e :: M, i, h => by
    have h1 : e.1 ≠ s := fun e' => h (by simp [keys, e'])
    have h2 : s ∉ keys M := fun h' => h (by simp [keys] at h' ⊢; exact .inr h')
    simp only [List.cons_append, look, if_neg h1, look_append s x M (i + 1) h2, List.length_cons]
    split
    · congr 2; omega
    · rfl
theorem look_append_ne (s : ByteArray) (x : Ent) (hx : x.1 ≠ s) : ∀ (M : List Ent) (i : Nat), look (M ++ [x]) s i = look M s i
  | [], i => by simp [look, hx]
  | e :: M, i => by simp only [List.cons_append, look, look_append_ne s x hx M (i + 1)]
theorem look_set_ne (s s' : ByteArray) (q : Int × Int) (hs : s ≠ s') : ∀ (M : List Ent) (j i : Nat), ((keys M)[j]? = some s) → look (M.set j (s, q)) s' i = look M s' i
  | [], j, i, h => by simp [keys] at h
  | e :: M, 0, i, h => by
    have : e.1 = s := by simpa [keys] using h
    simp [look, this, hs]
  | e :: M, j + 1, i, h => by
    have h' : (keys M)[j]? = some s := by simpa [keys] using h
    simp only [List.set_cons_succ, look, look_set_ne s s' q hs M j (i + 1) h']
theorem look_set_eq (s : ByteArray) (q : Int × Int) : ∀ (M : List Ent) (j i : Nat), ((keys M)[j]? = some s) → (∀ k, k < j → (keys M)[k]? ≠ some s) → look (M.set j (s, q)) s i = some (i + j, q)
  | [], j, i, h, _ => by simp [keys] at h
  | e :: M, 0, i, h, _ => by simp [look]
  | e :: M, j + 1, i, h, hk => by
    have h' : (keys M)[j]? = some s := by simpa [keys] using h
    have h0 : e.1 ≠ s := fun e' => hk 0 (by omega) (by simp [keys, e'])
    simp only [List.set_cons_succ, look, if_neg h0, look_set_eq s q M j (i + 1) h' (fun k hk' => by have := hk (k + 1) (by omega); simpa [keys] using this)]
    congr 2; omega

theorem val_upd (M : List Ent) (s s' : ByteArray) (q : Int × Int) : val (upd M s q) s' = if s' = s then q else val M s' := by
  unfold upd
  rcases look_spec s M 0 with ⟨h1, h2⟩ | ⟨j, q', h1, h2, h3⟩
  · rw [h1]
    unfold val
    by_cases e : s' = s
    · subst e; rw [if_pos rfl, look_append _ _ _ _ h2]; simp
    · rw [if_neg e, look_append_ne _ _ (fun e' => e e'.symm)]
  · rw [h1]
    have hk : (keys M)[j]? = some s := by unfold keys; rw [List.getElem?_map, h2]; rfl
    unfold val
    simp only [Nat.zero_add]
    by_cases e : s' = s
    · subst e; rw [if_pos rfl, look_set_eq _ _ _ _ _ hk h3]
    · rw [if_neg e, look_set_ne _ _ _ (fun e' => e e'.symm) _ _ _ hk]

theorem unKeys_ent : ∀ M : List Ent, unKeys (M.map ent) = some (keys M)
  | [] => rfl
  | e :: M => by simp only [List.map_cons, ent, unKeys, unKeys_ent M, Option.map_some, keys]

/-- The sums. -/
def zeros (nm : List ByteArray) : List Ent := nm.foldl (fun M s => upd M s (0, 0)) []
def addc (M : List Ent) (c : Cnt) : List Ent := upd M c.nm ((val M c.nm).1 + c.t, (val M c.nm).2 + c.r)
def addl (M : List Ent) (l : List Cnt) : List Ent := l.foldl addc M
def sumsM (cy : List (List Cnt)) (nm : List ByteArray) : List Ent := cy.foldl addl (zeros nm)
def Bnd (M : List Ent) (b : Int) : Prop := ∀ s, (0 ≤ (val M s).1 ∧ (val M s).1 ≤ b) ∧ (0 ≤ (val M s).2 ∧ (val M s).2 ≤ b)
theorem Bnd.addc {M : List Ent} {b : Int} (h : Bnd M b) {c : Cnt} (hc : cntOk c) : Bnd (addc M c) (b + 100000) := by
  intro s
  unfold Proofs.Ytofalpngdbinbaa.addc
  rw [val_upd]
  have h1 := h c.nm
  have h2 := h s
  obtain ⟨_, h3, h4⟩ := hc
  split
  · dsimp only; omega
  · omega
theorem Bnd.addl : ∀ {l : List Cnt} {M : List Ent} {b : Int} (_ : Bnd M b) (_ : ∀ c ∈ l, cntOk c), Bnd (addl M l) (b + 100000 * l.length)
  | [], M, b, h, _ => by simpa [Proofs.Ytofalpngdbinbaa.addl] using h
  | c :: l, M, b, h, hc => by
    have := Bnd.addl (l := l) (h.addc (hc c (by simp))) fun c' h' => hc c' (by simp [h'])
    simp only [Proofs.Ytofalpngdbinbaa.addl, List.foldl_cons, List.length_cons] at this ⊢
    intro s
    have := this s
    omega
theorem zeros_val (nm : List ByteArray) (s : ByteArray) : val (zeros nm) s = (0, 0) := by
  have key : ∀ (nm : List ByteArray) (M : List Ent), val M s = (0, 0) → val (nm.foldl (fun M s => upd M s (0, 0)) M) s = (0, 0) := by
    intro nm
    induction nm with
    | nil => intro M h; exact h
    | cons a nm ih => intro M h; exact ih _ (by rw [val_upd, h]; simp)
  exact key nm [] rfl
theorem Bnd.zeros (nm : List ByteArray) : Bnd (zeros nm) 0 := fun s => by rw [zeros_val]; simp
end Go.Proofs.Ytofalpngdbinbaa
/- Texts on lists; copies; a history's sums. -/
namespace Go.Proofs.Ytofalpngdbinbaa
open Go Go.PM

def hasS (l : List ByteArray) (s : ByteArray) : Bool := l.any fun x => decide (x = s)
theorem hasS_iff {l : List ByteArray} {s : ByteArray} : hasS l s = true ↔ s ∈ l := by
  simp [hasS]
theorem strs_length (l : List ByteArray) : (strs l).length = l.length := by simp [strs]
theorem cycs_length (cy : List (List Cnt)) : (cycs cy).length = cy.length := by simp [cycs]
theorem cycs_drop (cy : List (List Cnt)) {j : Nat} (hj : j < cy.length) : List.drop j (cycs cy) = cyC cy[j] :: List.drop (j + 1) (cycs cy) := by
  rw [List.drop_eq_getElem_cons (show j < (cycs cy).length by simpa [cycs] using hj)]; simp [cycs]

section
variable (fu d : Nat)
theorem sp_CloneC (l : List Cnt) (hl : l.length ≤ 1000) : cl fu (d + 1) fn_slices_Clone_sapi_Count_api_Count [V.c (.sl l.length (fl cc l))] [] = some ⟨V.c (.sl l.length (fl cc l)), [], none⟩ := by
  rw [eq_slices_Clone_sapi_Count_api_Count]
  have hL := fl_length cc_length l
  have ht : List.take (l.length * 3) (fl cc l) = fl cc l := List.take_of_length_le (by omega)
  have key : (need (Nat.beq (l.length * 3) (fl cc l).length) <|
      need ((Nat.ble ((0 + l.length) * 32) 140737488355328) && (Nat.ble (0 + l.length) 140737488355328)) <|
      need (Nat.ble (0 + ((0 + l.length) * 3)) (fl cc l).length) <|
      some (⟨V.c (C.sl (0 + l.length) (List.take ((0 + l.length) * 3) (fl cc l))), [], none⟩ : Out)) = some ⟨V.c (.sl l.length (fl cc l)), [], none⟩ := by
    simp (disch := omega) only [obs, rC_c, rA_agg, rT_tup, rP_ptr, rW_own, rS_sb, rF_sb, uncV_cons, uncO_cons, nilV_nil, rO_ob, rN_ob, unc_cons, asI_int, asB_bool, asS_string, asSl_sl, asSl_nl, asFn_fn, asP_cp, nrm_sl, nrm_nl, need_true, ct, cf, bd_eq, natD_zero, natD_succ, natD_one, noYl_v, noYl_sl, noYl_nl, noYl_cp, noYl_fn, Bool.and_true, Bool.true_and, Bool.and_self, beqN_self, Bool.not_true, Bool.not_false, Bool.and_false, Bool.false_and, Bool.or_false, Bool.false_or, Bool.or_true, Bool.true_or, wrap_in, dlt_t, dlt_f, dle_t, dle_f, dgt_t, dgt_f, dge_t, dge_f, ibeq_t, ibeq_f, ibne_t, ibne_f, inR_int, beqN_eq, bleN_le, hL, Nat.zero_add, ht]
  rw [key]
  cases l with
  | nil => exact same_self _
  | cons c l => rfl
theorem sp_CloneS (l : List ByteArray) (hl : l.length ≤ 1000) : cl fu (d + 1) fn_slices_Clone_sstring_string [V.c (.sl l.length (strs l))] [] = some ⟨V.own 1000000 0 l.length, [.sb ty_string 0 (strs l)], none⟩ := by
  rw [eq_slices_Clone_sstring_string]
  have hL := strs_length l
  have ht : List.take l.length (strs l) = strs l := List.take_of_length_le (by omega)
  have key : (need (Nat.beq (l.length * 1) (strs l).length) <|
      need ((Nat.ble ((0 + l.length) * 16) 140737488355328) && (Nat.ble (0 + l.length) 140737488355328)) <|
      need (((Nat.ble ((0 + l.length) * 1) (strs l).length) && true) && true) <|
      some (⟨V.own 1000000 0 (0 + l.length), [.sb ty_string 0 (List.take ((0 + l.length) * 1) (strs l))], none⟩ : Out)) = some ⟨V.own 1000000 0 l.length, [.sb ty_string 0 (strs l)], none⟩ := by
    simp (disch := omega) only [obs, rC_c, rA_agg, rT_tup, rP_ptr, rW_own, rS_sb, rF_sb, uncV_cons, uncO_cons, nilV_nil, rO_ob, rN_ob, unc_cons, asI_int, asB_bool, asS_string, asSl_sl, asSl_nl, asFn_fn, asP_cp, nrm_sl, nrm_nl, need_true, ct, cf, bd_eq, natD_zero, natD_succ, natD_one, noYl_v, noYl_sl, noYl_nl, noYl_cp, noYl_fn, Bool.and_true, Bool.true_and, Bool.and_self, beqN_self, Bool.not_true, Bool.not_false, Bool.and_false, Bool.false_and, Bool.or_false, Bool.false_or, Bool.or_true, Bool.true_or, wrap_in, dlt_t, dlt_f, dle_t, dle_f, dgt_t, dgt_f, dge_t, dge_f, ibeq_t, ibeq_f, ibne_t, ibne_f, inR_int, beqN_eq, bleN_le, hL, Nat.zero_add, Nat.mul_one, ht]
  rw [key]
  cases l with
  | nil => exact same_self _
  | cons c l => rfl

variable (hf : 18446744073709551616 ≤ fu)
include hf
theorem sp_Contains (l : List ByteArray) (s : ByteArray) (hl : l.length ≤ 1000000) : cl fu (d + 2) fn_slices_Contains_sstring_string [V.c (.sl l.length (strs l)), V.c (.v (.string s))] [] = some ⟨B (hasS l s), [], none⟩ := by
  rw [eq_slices_Contains_sstring_string, eq_slices_Index_sstring_string]
  have step : ∀ j (hj : j < l.length), l[j] ≠ s → (s.toList == l[j].toList) = false := fun j hj hn => by
    rw [toList_beq, decide_eq_false]; exact fun e => hn e.symm
  rcases first_or_none (fun j => l[j]? = some s) l.length with h | ⟨k, hk, h1, h2⟩
  · have hn : hasS l s = false := by
      cases e : hasS l s with
      | false => rfl
      | true =>
        obtain ⟨j, hj, e2⟩ := List.mem_iff_getElem.1 (hasS_iff.1 e)
        exact absurd (by simp [hj, e2]) (h j hj)
    rw [iter_runx (fun j : Nat => ((0 : Int), ((j : Nat) : Int), ())) 0 (0, (l.length : Int), ()) l.length ?_ ?_ ?_ (by omega)]
    · rw [hn]; rfl
    · rfl
    · intro j hj
      have hne : l[j] ≠ s := fun e => h j hj (by simp [hj, e])
      rw [strs_fl]
      simp (disch := omega) only [obs, rC_c, rA_agg, rT_tup, rP_ptr, rW_own, rS_sb, rF_sb, uncV_cons, uncO_cons, nilV_nil, rO_ob, rN_ob, unc_cons, asI_int, asB_bool, asS_string, asSl_sl, asSl_nl, asFn_fn, asP_cp, nrm_sl, nrm_nl, need_true, ct, cf, bd_eq, natD_zero, natD_succ, natD_one, noYl_v, noYl_sl, noYl_nl, noYl_cp, noYl_fn, Bool.and_true, Bool.true_and, Bool.and_self, beqN_self, Bool.not_true, Bool.not_false, Bool.and_false, Bool.false_and, Bool.or_false, Bool.false_or, Bool.or_true, Bool.true_or, wrap_in, dlt_t, dlt_f, dle_t, dle_f, dgt_t, dgt_f, dge_t, dge_f, ibeq_t, ibeq_f, ibne_t, ibne_f, inR_int, beqN_eq, bleN_le, Int.toNat_natCast, fl_at sc_length hj, sc, List.cons_append, step j hj hne]
      rfl
    · simp (disch := omega) only [obs, rC_c, rA_agg, rT_tup, rP_ptr, rW_own, rS_sb, rF_sb, uncV_cons, uncO_cons, nilV_nil, rO_ob, rN_ob, unc_cons, asI_int, asB_bool, asS_string, asSl_sl, asSl_nl, asFn_fn, asP_cp, nrm_sl, nrm_nl, need_true, ct, cf, bd_eq, natD_zero, natD_succ, natD_one, noYl_v, noYl_sl, noYl_nl, noYl_cp, noYl_fn, Bool.and_true, Bool.true_and, Bool.and_self, beqN_self, Bool.not_true, Bool.not_false, Bool.and_false, Bool.false_and, Bool.or_false, Bool.false_or, Bool.or_true, Bool.true_or, wrap_in, dlt_t, dlt_f, dle_t, dle_f, dgt_t, dgt_f, dge_t, dge_f, ibeq_t, ibeq_f, ibne_t, ibne_f, inR_int, beqN_eq, bleN_le]
  · have hks : l[k] = s := by have := h1; simpa [hk] using this
    have hn : hasS l s = true := hasS_iff.2 (hks ▸ List.getElem_mem hk)
    rw [iter_runx (fun j : Nat => ((0 : Int), ((j : Nat) : Int), ())) 1 ((k : Int), (k : Int), ()) k ?_ ?_ ?_ (by omega)]
    · simp (disch := omega) only [obs, rC_c, rA_agg, rT_tup, rP_ptr, rW_own, rS_sb, rF_sb, uncV_cons, uncO_cons, nilV_nil, rO_ob, rN_ob, unc_cons, asI_int, asB_bool, asS_string, asSl_sl, asSl_nl, asFn_fn, asP_cp, nrm_sl, nrm_nl, need_true, ct, cf, bd_eq, natD_zero, natD_succ, natD_one, noYl_v, noYl_sl, noYl_nl, noYl_cp, noYl_fn, Bool.and_true, Bool.true_and, Bool.and_self, beqN_self, Bool.not_true, Bool.not_false, Bool.and_false, Bool.false_and, Bool.or_false, Bool.false_or, Bool.or_true, Bool.true_or, wrap_in, dlt_t, dlt_f, dle_t, dle_f, dgt_t, dgt_f, dge_t, dge_f, ibeq_t, ibeq_f, ibne_t, ibne_f, inR_int, beqN_eq, bleN_le, hn]
    · rfl
    · intro j hj
      have hj' : j < l.length := by omega
      have hne : l[j] ≠ s := fun e => h2 j hj (by simp [hj', e])
      rw [strs_fl]
      simp (disch := omega) only [obs, rC_c, rA_agg, rT_tup, rP_ptr, rW_own, rS_sb, rF_sb, uncV_cons, uncO_cons, nilV_nil, rO_ob, rN_ob, unc_cons, asI_int, asB_bool, asS_string, asSl_sl, asSl_nl, asFn_fn, asP_cp, nrm_sl, nrm_nl, need_true, ct, cf, bd_eq, natD_zero, natD_succ, natD_one, noYl_v, noYl_sl, noYl_nl, noYl_cp, noYl_fn, Bool.and_true, Bool.true_and, Bool.and_self, beqN_self, Bool.not_true, Bool.not_false, Bool.and_false, Bool.false_and, Bool.or_false, Bool.false_or, Bool.or_true, Bool.true_or, wrap_in, dlt_t, dlt_f, dle_t, dle_f, dgt_t, dgt_f, dge_t, dge_f, ibeq_t, ibeq_f, ibne_t, ibne_f, inR_int, beqN_eq, bleN_le, Int.toNat_natCast, fl_at sc_length hj', sc, List.cons_append, step j hj' hne]
      rfl
    · rw [strs_fl]
      simp (disch := omega) only [obs, rC_c, rA_agg, rT_tup, rP_ptr, rW_own, rS_sb, rF_sb, uncV_cons, uncO_cons, nilV_nil, rO_ob, rN_ob, unc_cons, asI_int, asB_bool, asS_string, asSl_sl, asSl_nl, asFn_fn, asP_cp, nrm_sl, nrm_nl, need_true, ct, cf, bd_eq, natD_zero, natD_succ, natD_one, noYl_v, noYl_sl, noYl_nl, noYl_cp, noYl_fn, Bool.and_true, Bool.true_and, Bool.and_self, beqN_self, Bool.not_true, Bool.not_false, Bool.and_false, Bool.false_and, Bool.or_false, Bool.false_or, Bool.or_true, Bool.true_or, wrap_in, dlt_t, dlt_f, dle_t, dle_f, dgt_t, dgt_f, dge_t, dge_f, ibeq_t, ibeq_f, ibne_t, ibne_f, inR_int, beqN_eq, bleN_le, Int.toNat_natCast, fl_at sc_length hk, sc, List.cons_append, hks, beq_self_eq_true]

theorem sp_copied {h1 h2 : C} {cy : List (List Cnt)} {nm : List ByteArray} (e1 : nrm h1 = .sl cy.length (cycs cy)) (e2 : nrm h2 = .sl nm.length (strs nm)) (hok : histOk cy nm) :
    cl fu (d + 2) fn_blacklist_copied [V.agg [h1, h2]] [] = some ⟨V.mag [V.own 1000000 0 cy.length, V.own 1000001 0 nm.length], [.sb ty_sapi_Count 0 (cycs cy), .sb ty_string 0 (strs nm)], none⟩ := by
  obtain ⟨k1, k2, k3, k4, k5⟩ := hok
  have hS := sp_CloneS fu d nm (by omega)
  have hL := strs_length nm
  have hC := cycs_length cy
  rw [eq_blacklist_copied, e2]
  simp (disch := omega) only [obs, rC_c, rA_agg, rT_tup, rP_ptr, rW_own, rS_sb, rF_sb, uncV_cons, uncO_cons, nilV_nil, rO_ob, rN_ob, unc_cons, asI_int, asB_bool, asS_string, asSl_sl, asSl_nl, asFn_fn, asP_cp, nrm_sl, nrm_nl, need_true, ct, cf, bd_eq, natD_zero, natD_succ, natD_one, noYl_v, noYl_sl, noYl_nl, noYl_cp, noYl_fn, Bool.and_true, Bool.true_and, Bool.and_self, beqN_self, Bool.not_true, Bool.not_false, Bool.and_false, Bool.false_and, Bool.or_false, Bool.false_or, Bool.or_true, Bool.true_or, wrap_in, dlt_t, dlt_f, dle_t, dle_f, dgt_t, dgt_f, dge_t, dge_f, ibeq_t, ibeq_f, ibne_t, ibne_f, inR_int, beqN_eq, bleN_le, hS, hL, Nat.mul_one, asSl_nrm e1]
  rw [iter_runx (fun j : Nat => (((j : Nat) : Int), (C.nl, C.nl, ()), (List.take j (cycs cy), strs nm, ()), ())) 0 ((cy.length : Int), (C.nl, C.nl, ()), (cycs cy, strs nm, ()), ()) cy.length ?_ ?_ ?_ (by omega)]
  · have t1 : List.take cy.length (cycs cy) = cycs cy := List.take_of_length_le (by omega)
    have t2 : List.take nm.length (strs nm) = strs nm := List.take_of_length_le (by omega)
    simp (disch := omega) only [obs, rC_c, rA_agg, rT_tup, rP_ptr, rW_own, rS_sb, rF_sb, uncV_cons, uncO_cons, nilV_nil, rO_ob, rN_ob, unc_cons, asI_int, asB_bool, asS_string, asSl_sl, asSl_nl, asFn_fn, asP_cp, nrm_sl, nrm_nl, need_true, ct, cf, bd_eq, natD_zero, natD_succ, natD_one, noYl_v, noYl_sl, noYl_nl, noYl_cp, noYl_fn, Bool.and_true, Bool.true_and, Bool.and_self, beqN_self, Bool.not_true, Bool.not_false, Bool.and_false, Bool.false_and, Bool.or_false, Bool.false_or, Bool.or_true, Bool.true_or, wrap_in, dlt_t, dlt_f, dle_t, dle_f, dgt_t, dgt_f, dge_t, dge_f, ibeq_t, ibeq_f, ibne_t, ibne_f, inR_int, beqN_eq, bleN_le, hL, hC, Nat.div_one, Nat.mul_one, t1, t2]
    rfl
  · rfl
  · intro j hj
    have hc := sp_CloneC fu d cy[j] (by have := (k2 cy[j] (List.getElem_mem hj)).1; omega)
    have hlt : (List.take j (cycs cy)).length = j := by rw [List.length_take]; omega
    have ht : List.take (j + 1) (cycs cy) = List.take j (cycs cy) ++ [cyC cy[j]] := by
      rw [List.take_succ_eq_append_getElem (show j < (cycs cy).length by omega)]; simp [cycs]
    rw [ht]
    simp (disch := omega) only [obs, rC_c, rA_agg, rT_tup, rP_ptr, rW_own, rS_sb, rF_sb, uncV_cons, uncO_cons, nilV_nil, rO_ob, rN_ob, unc_cons, asI_int, asB_bool, asS_string, asSl_sl, asSl_nl, asFn_fn, asP_cp, nrm_sl, nrm_nl, need_true, ct, cf, bd_eq, natD_zero, natD_succ, natD_one, noYl_v, noYl_sl, noYl_nl, noYl_cp, noYl_fn, Bool.and_true, Bool.true_and, Bool.and_self, beqN_self, Bool.not_true, Bool.not_false, Bool.and_false, Bool.false_and, Bool.or_false, Bool.false_or, Bool.or_true, Bool.true_or, wrap_in, dlt_t, dlt_f, dle_t, dle_f, dgt_t, dgt_f, dge_t, dge_f, ibeq_t, ibeq_f, ibne_t, ibne_f, inR_int, beqN_eq, bleN_le, Int.toNat_natCast, Nat.mul_one, cycs_drop cy hj, cyC, hc, hlt, hL, List.length_append, List.length_cons, List.length_nil, Nat.div_one, Nat.zero_add]
    rfl
  · have t1 : List.take cy.length (cycs cy) = cycs cy := List.take_of_length_le (by omega)
    simp (disch := omega) only [obs, rC_c, rA_agg, rT_tup, rP_ptr, rW_own, rS_sb, rF_sb, uncV_cons, uncO_cons, nilV_nil, rO_ob, rN_ob, unc_cons, asI_int, asB_bool, asS_string, asSl_sl, asSl_nl, asFn_fn, asP_cp, nrm_sl, nrm_nl, need_true, ct, cf, bd_eq, natD_zero, natD_succ, natD_one, noYl_v, noYl_sl, noYl_nl, noYl_cp, noYl_fn, Bool.and_true, Bool.true_and, Bool.and_self, beqN_self, Bool.not_true, Bool.not_false, Bool.and_false, Bool.false_and, Bool.or_false, Bool.false_or, Bool.or_true, Bool.true_or, wrap_in, dlt_t, dlt_f, dle_t, dle_f, dgt_t, dgt_f, dge_t, dge_f, ibeq_t, ibeq_f, ibne_t, ibne_f, inR_int, beqN_eq, bleN_le, hL, hC, t1, Nat.div_one, Nat.mul_one]

theorem sp_sums (cy : List (List Cnt)) (nm : List ByteArray) (hcy : cy.length ≤ 13) (hl : ∀ l ∈ cy, l.length ≤ 150 ∧ ∀ c ∈ l, cntOk c) (hn : nm.length ≤ 150) :
    cl fu (d + 1) fn_blacklist_sums [V.agg [C.sl cy.length (cycs cy), C.sl nm.length (strs nm)]] [] = some ⟨V.c (C.mp ty_string ty_api_Count none (some 3) ((sumsM cy nm).map ent)), [], none⟩ := by
  rw [eq_blacklist_sums]
  simp only [asSl_sl]
  rw [iter_runx (fun j : Nat => (((j : Nat) : Int), ((zeros (nm.take j)).map ent), ())) 0 ((nm.length : Int), ((zeros nm).map ent), ()) nm.length ?_ ?_ ?_ (by omega)]
  · simp only [obs]
    have hb : ∀ j, j ≤ cy.length → Bnd ((cy.take j).foldl addl (zeros nm)) (15000000 * j) := by
      intro j
      induction j with
      | zero => intro _; simpa using Bnd.zeros nm
      | succ j ih =>
        intro hj
        have hj' : j < cy.length := by omega
        rw [List.take_succ_eq_append_getElem hj', List.foldl_append]
        have h1 := hl cy[j] (List.getElem_mem hj')
        have h2 := Bnd.addl (ih (by omega)) h1.2
        intro s
        have := h2 s
        simp only [List.foldl_cons, List.foldl_nil]
        omega
    rw [iter_runx (fun j : Nat => (((j : Nat) : Int), (((cy.take j).foldl addl (zeros nm)).map ent), ())) 0 ((cy.length : Int), ((sumsM cy nm).map ent), ()) cy.length ?_ ?_ ?_ (by omega)]
    · rfl
    · rfl
    · intro j hj
      have hlj := hl cy[j] (List.getElem_mem hj)
      have hbj := hb j (by omega)
      have hnext : (cy.take (j + 1)).foldl addl (zeros nm) = addl ((cy.take j).foldl addl (zeros nm)) cy[j] := by
        rw [List.take_succ_eq_append_getElem hj, List.foldl_append]; rfl
      rw [hnext]
      generalize (cy.take j).foldl addl (zeros nm) = M at hbj ⊢
      simp (disch := omega) only [obs, rC_c, rA_agg, rT_tup, rP_ptr, rW_own, rS_sb, rF_sb, uncV_cons, uncO_cons, nilV_nil, rO_ob, rN_ob, unc_cons, asI_int, asB_bool, asS_string, asSl_sl, asSl_nl, asFn_fn, asP_cp, nrm_sl, nrm_nl, need_true, ct, cf, bd_eq, natD_zero, natD_succ, natD_one, noYl_v, noYl_sl, noYl_nl, noYl_cp, noYl_fn, Bool.and_true, Bool.true_and, Bool.and_self, beqN_self, Bool.not_true, Bool.not_false, Bool.and_false, Bool.false_and, Bool.or_false, Bool.false_or, Bool.or_true, Bool.true_or, wrap_in, dlt_t, dlt_f, dle_t, dle_f, dgt_t, dgt_f, dge_t, dge_f, ibeq_t, ibeq_f, ibne_t, ibne_f, inR_int, beqN_eq, bleN_le, Int.toNat_natCast, Nat.mul_one, cycs_drop cy hj, cyC]
      generalize cy[j] = l at hlj ⊢
      obtain ⟨hl1, hl2⟩ := hlj
      rw [iter_runx (fun i : Nat => (((i : Nat) : Int), ((addl M (l.take i)).map ent), ())) 0 ((l.length : Int), ((addl M l).map ent), ()) l.length ?_ ?_ ?_ (by omega)]
      · rfl
      · rfl
      · intro i hi
        have hbi := Bnd.addl (l := l.take i) hbj fun c hc => hl2 c (List.mem_of_mem_take hc)
        have hnx : addl M (l.take (i + 1)) = addc (addl M (l.take i)) l[i] := by
          unfold addl
          rw [List.take_succ_eq_append_getElem hi, List.foldl_append]; rfl
        have hci := hl2 l[i] (List.getElem_mem hi)
        rw [hnx]
        generalize addl M (l.take i) = M' at hbi ⊢
        have hv := hbi l[i].nm
        obtain ⟨_, hc1, hc2⟩ := hci
        have hti : (List.take i l).length = i := by rw [List.length_take]; omega
        rw [hti] at hv
        unfold addc
        rw [← mput_ent]
        simp (disch := omega) only [obs, rC_c, rA_agg, rT_tup, rP_ptr, rW_own, rS_sb, rF_sb, uncV_cons, uncO_cons, nilV_nil, rO_ob, rN_ob, unc_cons, asI_int, asB_bool, asS_string, asSl_sl, asSl_nl, asFn_fn, asP_cp, nrm_sl, nrm_nl, need_true, ct, cf, bd_eq, natD_zero, natD_succ, natD_one, noYl_v, noYl_sl, noYl_nl, noYl_cp, noYl_fn, Bool.and_true, Bool.true_and, Bool.and_self, beqN_self, Bool.not_true, Bool.not_false, Bool.and_false, Bool.false_and, Bool.or_false, Bool.false_or, Bool.or_true, Bool.true_or, wrap_in, dlt_t, dlt_f, dle_t, dle_f, dgt_t, dgt_f, dge_t, dge_f, ibeq_t, ibeq_f, ibne_t, ibne_f, inR_int, beqN_eq, bleN_le, Int.toNat_natCast, fl_at cc_length hi, cc, List.cons_append, mfd_ent, orZ_ent]
        unfold valC
        simp (disch := omega) only [obs, rC_c, rA_agg, rT_tup, rP_ptr, rW_own, rS_sb, rF_sb, uncV_cons, uncO_cons, nilV_nil, rO_ob, rN_ob, unc_cons, asI_int, asB_bool, asS_string, asSl_sl, asSl_nl, asFn_fn, asP_cp, nrm_sl, nrm_nl, need_true, ct, cf, bd_eq, natD_zero, natD_succ, natD_one, noYl_v, noYl_sl, noYl_nl, noYl_cp, noYl_fn, Bool.and_true, Bool.true_and, Bool.and_self, beqN_self, Bool.not_true, Bool.not_false, Bool.and_false, Bool.false_and, Bool.or_false, Bool.false_or, Bool.or_true, Bool.true_or, wrap_in, dlt_t, dlt_f, dle_t, dle_f, dgt_t, dgt_f, dge_t, dge_f, ibeq_t, ibeq_f, ibne_t, ibne_f, inR_int, beqN_eq, bleN_le]
        rfl
      · rw [List.take_length]
        simp (disch := omega) only [obs, rC_c, rA_agg, rT_tup, rP_ptr, rW_own, rS_sb, rF_sb, uncV_cons, uncO_cons, nilV_nil, rO_ob, rN_ob, unc_cons, asI_int, asB_bool, asS_string, asSl_sl, asSl_nl, asFn_fn, asP_cp, nrm_sl, nrm_nl, need_true, ct, cf, bd_eq, natD_zero, natD_succ, natD_one, noYl_v, noYl_sl, noYl_nl, noYl_cp, noYl_fn, Bool.and_true, Bool.true_and, Bool.and_self, beqN_self, Bool.not_true, Bool.not_false, Bool.and_false, Bool.false_and, Bool.or_false, Bool.false_or, Bool.or_true, Bool.true_or, wrap_in, dlt_t, dlt_f, dle_t, dle_f, dgt_t, dgt_f, dge_t, dge_f, ibeq_t, ibeq_f, ibne_t, ibne_f, inR_int, beqN_eq, bleN_le]
    · rw [List.take_length]
      simp (disch := omega) only [obs, rC_c, rA_agg, rT_tup, rP_ptr, rW_own, rS_sb, rF_sb, uncV_cons, uncO_cons, nilV_nil, rO_ob, rN_ob, unc_cons, asI_int, asB_bool, asS_string, asSl_sl, asSl_nl, asFn_fn, asP_cp, nrm_sl, nrm_nl, need_true, ct, cf, bd_eq, natD_zero, natD_succ, natD_one, noYl_v, noYl_sl, noYl_nl, noYl_cp, noYl_fn, Bool.and_true, Bool.true_and, Bool.and_self, beqN_self, Bool.not_true, Bool.not_false, Bool.and_false, Bool.false_and, Bool.or_false, Bool.false_or, Bool.or_true, Bool.true_or, wrap_in, dlt_t, dlt_f, dle_t, dle_f, dgt_t, dgt_f, dge_t, dge_f, ibeq_t, ibeq_f, ibne_t, ibne_f, inR_int, beqN_eq, bleN_le]
      rfl
  · rfl
  · intro j hj
    have ht : zeros (nm.take (j + 1)) = upd (zeros (nm.take j)) nm[j] (0, 0) := by
      unfold zeros
      rw [List.take_succ_eq_append_getElem hj, List.foldl_append]; rfl
    rw [ht, ← mput_ent]
    rw [strs_fl]
    simp (disch := omega) only [obs, rC_c, rA_agg, rT_tup, rP_ptr, rW_own, rS_sb, rF_sb, uncV_cons, uncO_cons, nilV_nil, rO_ob, rN_ob, unc_cons, asI_int, asB_bool, asS_string, asSl_sl, asSl_nl, asFn_fn, asP_cp, nrm_sl, nrm_nl, need_true, ct, cf, bd_eq, natD_zero, natD_succ, natD_one, noYl_v, noYl_sl, noYl_nl, noYl_cp, noYl_fn, Bool.and_true, Bool.true_and, Bool.and_self, beqN_self, Bool.not_true, Bool.not_false, Bool.and_false, Bool.false_and, Bool.or_false, Bool.false_or, Bool.or_true, Bool.true_or, wrap_in, dlt_t, dlt_f, dle_t, dle_f, dgt_t, dgt_f, dge_t, dge_f, ibeq_t, ibeq_f, ibne_t, ibne_f, inR_int, beqN_eq, bleN_le, Int.toNat_natCast, fl_at sc_length hj, sc, List.cons_append, mfd_ent, valC]
    rfl
  · rw [List.take_length]
    simp (disch := omega) only [obs, rC_c, rA_agg, rT_tup, rP_ptr, rW_own, rS_sb, rF_sb, uncV_cons, uncO_cons, nilV_nil, rO_ob, rN_ob, unc_cons, asI_int, asB_bool, asS_string, asSl_sl, asSl_nl, asFn_fn, asP_cp, nrm_sl, nrm_nl, need_true, ct, cf, bd_eq, natD_zero, natD_succ, natD_one, noYl_v, noYl_sl, noYl_nl, noYl_cp, noYl_fn, Bool.and_true, Bool.true_and, Bool.and_self, beqN_self, Bool.not_true, Bool.not_false, Bool.and_false, Bool.false_and, Bool.or_false, Bool.false_or, Bool.or_true, Bool.true_or, wrap_in, dlt_t, dlt_f, dle_t, dle_f, dgt_t, dgt_f, dge_t, dge_f, ibeq_t, ibeq_f, ibne_t, ibne_f, inR_int, beqN_eq, bleN_le]
end
end Go.Proofs.Ytofalpngdbinbaa
/- Push at valid histories. -/
namespace Go.Proofs.Ytofalpngdbinbaa
open Go Go.PM

theorem asMp_mp {R : Type} (kt et : TypeId) (es : List (List C × List C)) (k : List (List C × List C) → Option R) : asMp (C.mp kt et none (some 3) es) kt et none (some 3) k = k es := by
  simp [asMp, need, sameO]
theorem noYl_mp (kt et : TypeId) (ka va : Option Nat) (es : List (List C × List C)) : noYl [V.c (C.mp kt et ka va es)] = true := rfl

/-- The cycles that are kept. -/
def kept (cy : List (List Cnt)) (l : List Cnt) : List (List Cnt) := if 12 < cy.length + 1 then (cy ++ [l]).drop 1 else cy ++ [l]
/-- Which names are listed. -/
def cond (nm : List ByteArray) (lv en : Int) (M : List Ent) (s : ByteArray) : Bool :=
  if hasS nm s then decide ((val M s).1 = 0) || decide (lv * (val M s).1 ≤ 100 * (val M s).2) else decide (5 ≤ (val M s).1) && decide (en * (val M s).1 ≤ 100 * (val M s).2)
def listed (nm : List ByteArray) (lv en : Int) (M : List Ent) : List ByteArray := (sortB (keys M)).filter (cond nm lv en M)

theorem kept_all {P : List Cnt → Prop} {cy : List (List Cnt)} {l : List Cnt} (h : ∀ x ∈ cy, P x) (hl : P l) : ∀ x ∈ kept cy l, P x := by
  intro x hx
  have : x ∈ cy ++ [l] := by
    unfold kept at hx
    split at hx
    · exact List.mem_of_mem_drop hx
    · exact hx
  rcases List.mem_append.1 this with h' | h'
  · exact h x h'
  · simp at h'; subst h'; exact hl
theorem kept_length {cy : List (List Cnt)} {l : List Cnt} (h : cy.length ≤ 12) : (kept cy l).length ≤ 12 := by
  unfold kept
  split <;> simp <;> omega

theorem nodup_addl : ∀ (l : List Cnt) (M : List Ent), (keys M).Nodup → (keys (addl M l)).Nodup
  | [], M, h => h
  | c :: l, M, h => nodup_addl l _ (nodup_upd h _ _)
theorem nodup_sums (cy : List (List Cnt)) (nm : List ByteArray) : (keys (sumsM cy nm)).Nodup := by
  have h0 : ∀ (nm : List ByteArray) (M : List Ent), (keys M).Nodup → (keys (nm.foldl (fun M s => upd M s (0, 0)) M)).Nodup := by
    intro nm
    induction nm with
    | nil => intro M h; exact h
    | cons a nm ih => intro M h; exact ih _ (nodup_upd h _ _)
  have h1 : ∀ (cy : List (List Cnt)) (M : List Ent), (keys M).Nodup → (keys (cy.foldl addl M)).Nodup := by
    intro cy
    induction cy with
    | nil => intro M h; exact h
    | cons a cy ih => intro M h; exact ih _ (nodup_addl a M h)
  exact h1 cy _ (h0 nm [] List.nodup_nil)
theorem mem_addl (s : ByteArray) : ∀ (l : List Cnt) (M : List Ent), s ∈ keys (addl M l) ↔ s ∈ l.map Cnt.nm ∨ s ∈ keys M
  | [], M => by simp [addl]
  | c :: l, M => by
    have := mem_addl s l (addc M c)
    unfold addl at this ⊢
    rw [List.foldl_cons, this]
    unfold addc
    rw [mem_upd, List.map_cons, List.mem_cons]
    constructor
    · rintro (h | h | h)
      · exact .inl (.inr h)
      · exact .inl (.inl h)
      · exact .inr h
    · rintro ((h | h) | h)
      · exact .inr (.inl h)
      · exact .inl h
      · exact .inr (.inr h)
theorem mem_sums (s : ByteArray) (cy : List (List Cnt)) (nm : List ByteArray) : s ∈ keys (sumsM cy nm) ↔ s ∈ nm ∨ ∃ l ∈ cy, s ∈ l.map Cnt.nm := by
  have h0 : ∀ (nm : List ByteArray) (M : List Ent), s ∈ keys (nm.foldl (fun M s => upd M s (0, 0)) M) ↔ s ∈ nm ∨ s ∈ keys M := by
    intro nm
    induction nm with
    | nil => intro M; simp
    | cons a nm ih =>
      intro M
      rw [List.foldl_cons, ih, mem_upd, List.mem_cons]
      constructor
      · rintro (h | h | h)
        · exact .inl (.inr h)
        · exact .inl (.inl h)
        · exact .inr h
      · rintro ((h | h) | h)
        · exact .inr (.inl h)
        · exact .inl h
        · exact .inr (.inr h)
  have h1 : ∀ (cy : List (List Cnt)) (M : List Ent), s ∈ keys (cy.foldl addl M) ↔ (∃ l ∈ cy, s ∈ l.map Cnt.nm) ∨ s ∈ keys M := by
    intro cy
    induction cy with
    | nil => intro M; simp
    | cons a cy ih =>
      intro M
      rw [List.foldl_cons, ih, mem_addl]
      constructor
      · rintro (⟨l, h1, h2⟩ | h | h)
        · exact .inl ⟨l, by simp [h1], h2⟩
        · exact .inl ⟨a, by simp, h⟩
        · exact .inr h
      · rintro (⟨l, h1, h2⟩ | h)
        · rcases List.mem_cons.1 h1 with rfl | h1
          · exact .inr (.inl h2)
          · exact .inl ⟨l, h1, h2⟩
        · exact .inr (.inr h)
  unfold sumsM
  rw [h1, zeros, h0]
  simp [keys, or_comm]
theorem bnd_sums (cy : List (List Cnt)) (nm : List ByteArray) (hcy : cy.length ≤ 13) (hl : ∀ l ∈ cy, l.length ≤ 150 ∧ ∀ c ∈ l, cntOk c) : Bnd (sumsM cy nm) 195000000 := by
  have key : ∀ (cy : List (List Cnt)) (M : List Ent) (b : Int), Bnd M b → (∀ l ∈ cy, l.length ≤ 150 ∧ ∀ c ∈ l, cntOk c) → Bnd (cy.foldl addl M) (b + 15000000 * cy.length) := by
    intro cy
    induction cy with
    | nil => intro M b h _; simpa using h
    | cons a cy ih =>
      intro M b h hl
      have h1 := hl a (by simp)
      have h2 := ih _ _ (Bnd.addl h h1.2) fun l h' => hl l (by simp [h'])
      intro s
      have := h2 s
      simp only [List.foldl_cons, List.length_cons]
      omega
  intro s
  have := key cy _ 0 (Bnd.zeros nm) hl s
  unfold sumsM
  omega

theorem filter_succ (p : ByteArray → Bool) (ks : List ByteArray) {j : Nat} (hj : j < ks.length) : (ks.take (j + 1)).filter p = bif p ks[j] then (ks.take j).filter p ++ [ks[j]] else (ks.take j).filter p := by
  rw [List.take_succ_eq_append_getElem hj, List.filter_append]
  cases h : p ks[j] <;> simp [h]
theorem strs_snoc (l : List ByteArray) (s : ByteArray) : strs l ++ [C.v (.string s)] = strs (l ++ [s]) := by simp [strs]

section
variable (fu d : Nat)
theorem sp_percent {n : Int} (h : 1 ≤ n ∧ n ≤ 100) : cl fu (d + 1) fn_blacklist_percent [I n] [] = some ⟨B true, [], none⟩ := by
  rw [eq_blacklist_percent]
  simp (disch := omega) only [obs, rC_c, rA_agg, rT_tup, rP_ptr, rW_own, rS_sb, rF_sb, uncV_cons, uncO_cons, nilV_nil, rO_ob, rN_ob, unc_cons, asI_int, asB_bool, asS_string, asSl_sl, asSl_nl, asFn_fn, asP_cp, nrm_sl, nrm_nl, need_true, ct, cf, bd_eq, natD_zero, natD_succ, natD_one, noYl_v, noYl_sl, noYl_nl, noYl_cp, noYl_fn, Bool.and_true, Bool.true_and, Bool.and_self, beqN_self, Bool.not_true, Bool.not_false, Bool.and_false, Bool.false_and, Bool.or_false, Bool.false_or, Bool.or_true, Bool.true_or, wrap_in, dlt_t, dlt_f, dle_t, dle_f, dgt_t, dgt_f, dge_t, dge_f, ibeq_t, ibeq_f, ibne_t, ibne_f, inR_int, beqN_eq, bleN_le]
end
end Go.Proofs.Ytofalpngdbinbaa
/- Push at valid histories: what it answers. -/
namespace Go.Proofs.Ytofalpngdbinbaa
open Go Go.PM

theorem rG_mag {R : Type} (xs : List V) (k : List V → Option R) : rG (.mag xs) k = k xs := id rfl
theorem rW_own1 {R : Type} (n : Nat) (k : Nat → Option R) : rW (.own 1000001 0 n) 1 k = k n := id rfl

theorem out0 : Nat.beq 1000000 (OUT + 0) = true := rfl
theorem out1 : Nat.beq 1000001 (OUT + 1) = true := rfl

theorem strs_drop (l : List ByteArray) {j : Nat} (hj : j < l.length) : List.drop j (strs l) = C.v (.string l[j]) :: List.drop (j + 1) (strs l) := by
  rw [List.drop_eq_getElem_cons (show j < (strs l).length by simpa [strs] using hj)]; simp [strs]

theorem histOk_one {l : List Cnt} (h : cycleOk l) : histOk [l] [] := ⟨by simp, by simpa using h, by simp, by simp, fun j a b h => by simp at h⟩

section
variable (fu d : Nat) (hf : 18446744073709551616 ≤ fu)
include hf
set_option maxHeartbeats 1000000 in
theorem sp_Push {h1 h2 : C} {cy : List (List Cnt)} {nm : List ByteArray} (e1 : nrm h1 = .sl cy.length (cycs cy)) (e2 : nrm h2 = .sl nm.length (strs nm)) (hok : histOk cy nm)
    {l : List Cnt} (hl : cycleOk l) {a2 : List C} {lv en : Int} {r40 r39 : List C} (hk40 : List.drop 40 a2 = C.v (.int .i64 lv) :: r40) (hk39 : List.drop 39 a2 = C.v (.int .i64 en) :: r39) (hlv : 1 ≤ lv ∧ lv ≤ en ∧ en ≤ 100)
    (hkeys : (keys (sumsM (kept cy l) nm)).length ≤ 150) :
    cl fu (d + 14) fn_blacklist_Push [V.agg [h1, h2], V.c (cyC l), V.agg a2] [] =
      some ⟨V.tup [V.agg [C.sl (kept cy l).length (cycs (kept cy l)), C.sl (listed nm lv en (sumsM (kept cy l) nm)).length (strs (listed nm lv en (sumsM (kept cy l) nm)))], I 0], [], none⟩ := by
  have hV1 := sp_Validate fu (d + 1) hf e1 e2 hok
  have hV2 := sp_Validate fu (d + 1) hf (h1 := C.sl 1 [C.sl l.length (fl cc l)]) (h2 := C.nl) (cy := [l]) (nm := []) rfl rfl (histOk_one hl)
  have hp1 := sp_percent fu (d + 12) (n := lv) (by omega)
  have hp2 := sp_percent fu (d + 12) (n := en) (by omega)
  have hcp := sp_copied fu (d + 11) hf e1 e2 hok
  have hcl := sp_CloneC fu (d + 12) l (by have := hl.1; omega)
  obtain ⟨k1, k2, k3, k4, k5⟩ := hok
  have hkl := kept_length (l := l) k1
  have hall := kept_all (P := fun l => l.length ≤ 150 ∧ ∀ c ∈ l, cntOk c) (fun x hx => ⟨(k2 x hx).1, (k2 x hx).2.1⟩) (l := l) ⟨hl.1, hl.2.1⟩
  have hsums := sp_sums fu (d + 12) hf (kept cy l) nm (by omega) hall k3
  have hbnd := bnd_sums (kept cy l) nm (by omega) hall
  have hok2 : okKeys (keys (sumsM (kept cy l) nm)) := by
    have hm : (150 : Nat) ≤ maxLen := by decide
    refine ⟨nodup_sums _ _, fun s hs => ?_, Nat.le_trans hkeys hm, by omega⟩
    have h5 : nameOk s := by
      rcases (mem_sums s _ _).1 hs with h | ⟨x, hx, h⟩
      · exact k4 s h
      · obtain ⟨c, hc, rfl⟩ := List.mem_map.1 h
        exact ((hall x hx).2 c hc).1
    rw [h5.1]; decide
  have hso := pr_sorted fu (d + 12) ty_string ty_api_Count (some 3) ((sumsM (kept cy l) nm).map ent) _ (unKeys_ent _) hok2
  have hsl : (sortB (keys (sumsM (kept cy l) nm))).length = (keys (sumsM (kept cy l) nm)).length := sortB_length _
  rw [← hsl] at hso hkeys
  unfold listed
  have hC := cycs_length cy
  have hL := strs_length nm
  have tL : List.take nm.length (strs nm) = strs nm := List.take_of_length_le (by omega)
  have hcc : cycs cy ++ [C.sl l.length (fl cc l)] = cycs (cy ++ [l]) := by simp [cycs, cyC]
  unfold cyC
  rw [eq_blacklist_Push]
  simp (disch := omega) only [obs, rC_c, rA_agg, rT_tup, rP_ptr, rW_own, rS_sb, rF_sb, uncV_cons, uncO_cons, nilV_nil, rO_ob, rN_ob, unc_cons, asI_int, asB_bool, asS_string, asSl_sl, asSl_nl, asFn_fn, asP_cp, nrm_sl, nrm_nl, need_true, ct, cf, bd_eq, natD_zero, natD_succ, natD_one, noYl_v, noYl_sl, noYl_nl, noYl_cp, noYl_fn, Bool.and_true, Bool.true_and, Bool.and_self, beqN_self, Bool.not_true, Bool.not_false, Bool.and_false, Bool.false_and, Bool.or_false, Bool.false_or, Bool.or_true, Bool.true_or, wrap_in, dlt_t, dlt_f, dle_t, dle_f, dgt_t, dgt_f, dge_t, dge_f, ibeq_t, ibeq_f, ibne_t, ibne_f, inR_int, beqN_eq, bleN_le, hV1, hV2, hp1, hp2, hk40, hk39, hcp, hcl, rG_mag, out0, out1, hC, hL, Nat.mul_one, hcc, Nat.add_sub_cancel]
  by_cases h12 : 12 < cy.length + 1
  · have hkp : kept cy l = (cy ++ [l]).drop 1 := by unfold kept; rw [if_pos h12]
    have hkn : ((cy ++ [l]).drop 1).length = cy.length := by simp
    have tC : List.take cy.length (List.drop 1 (cycs (cy ++ [l]))) = cycs ((cy ++ [l]).drop 1) := by
      rw [show List.drop 1 (cycs (cy ++ [l])) = cycs ((cy ++ [l]).drop 1) by simp [cycs]]
      exact List.take_of_length_le (by rw [cycs_length]; omega)
    rw [hkp] at hsums hso hkeys hbnd hok2 hsl hall hkl ⊢
    rw [hkn] at hsums
    simp (disch := omega) only [obs, rC_c, rA_agg, rT_tup, rP_ptr, rW_own, rS_sb, rF_sb, uncV_cons, uncO_cons, nilV_nil, rO_ob, rN_ob, unc_cons, asI_int, asB_bool, asS_string, asSl_sl, asSl_nl, asFn_fn, asP_cp, nrm_sl, nrm_nl, need_true, ct, cf, bd_eq, natD_zero, natD_succ, natD_one, noYl_v, noYl_sl, noYl_nl, noYl_cp, noYl_fn, Bool.and_true, Bool.true_and, Bool.and_self, beqN_self, Bool.not_true, Bool.not_false, Bool.and_false, Bool.false_and, Bool.or_false, Bool.false_or, Bool.or_true, Bool.true_or, wrap_in, dlt_t, dlt_f, dle_t, dle_f, dgt_t, dgt_f, dge_t, dge_f, ibeq_t, ibeq_f, ibne_t, ibne_f, inR_int, beqN_eq, bleN_le, cycs_length, List.length_append, List.length_cons, List.length_nil, Nat.zero_add, tC, tL, hL, hsums, noYl_mp, pr_keys, hso]
    generalize sumsM ((cy ++ [l]).drop 1) nm = M at *
    generalize hks : sortB (keys M) = ks at *
    rw [show C.sl cy.length (cycs ((cy ++ [l]).drop 1)) = C.sl ((cy ++ [l]).drop 1).length (cycs ((cy ++ [l]).drop 1)) by rw [hkn]]
    rw [iter_runx (fun j : Nat => (((j : Nat) : Int), (C.nl, C.nl, ()), (C.sl ((cy ++ [l]).drop 1).length (cycs ((cy ++ [l]).drop 1)), strs ((ks.take j).filter (cond nm lv en M)), ()), ())) 0 ((ks.length : Int), (C.nl, C.nl, ()), (C.sl ((cy ++ [l]).drop 1).length (cycs ((cy ++ [l]).drop 1)), strs (ks.filter (cond nm lv en M)), ()), ()) ks.length ?_ ?_ ?_ (by omega)]
    · have hfl : (ks.filter (cond nm lv en M)).length ≤ 150 := Nat.le_trans (List.length_filter_le _ _) hkeys
      have t1 : List.take (ks.filter (cond nm lv en M)).length (strs (ks.filter (cond nm lv en M))) = strs (ks.filter (cond nm lv en M)) := List.take_of_length_le (by rw [strs_length]; omega)
      simp (disch := omega) only [obs, rC_c, rA_agg, rT_tup, rP_ptr, rW_own, rS_sb, rF_sb, uncV_cons, uncO_cons, nilV_nil, rO_ob, rN_ob, unc_cons, asI_int, asB_bool, asS_string, asSl_sl, asSl_nl, asFn_fn, asP_cp, nrm_sl, nrm_nl, need_true, ct, cf, bd_eq, natD_zero, natD_succ, natD_one, noYl_v, noYl_sl, noYl_nl, noYl_cp, noYl_fn, Bool.and_true, Bool.true_and, Bool.and_self, beqN_self, Bool.not_true, Bool.not_false, Bool.and_false, Bool.false_and, Bool.or_false, Bool.false_or, Bool.or_true, Bool.true_or, wrap_in, dlt_t, dlt_f, dle_t, dle_f, dgt_t, dgt_f, dge_t, dge_f, ibeq_t, ibeq_f, ibne_t, ibne_f, inR_int, beqN_eq, bleN_le, strs_length, Nat.div_one, Nat.mul_one, Nat.zero_add, t1]
    · rfl
    · intro j hj
      have hlen : ((ks.take j).filter (cond nm lv en M)).length ≤ 150 := Nat.le_trans (List.length_filter_le _ _) (by rw [List.length_take]; omega)
      have hcon := sp_Contains fu (d + 11) hf nm ks[j] (by omega)
      have hv := hbnd ks[j]
      have p1 : 0 ≤ lv * (val M ks[j]).1 ∧ lv * (val M ks[j]).1 ≤ 100 * 195000000 := ⟨Int.mul_nonneg (by omega) (by omega), Int.mul_le_mul (by omega) (by omega) (by omega) (by omega)⟩
      have p2 : 0 ≤ en * (val M ks[j]).1 ∧ en * (val M ks[j]).1 ≤ 100 * 195000000 := ⟨Int.mul_nonneg (by omega) (by omega), Int.mul_le_mul (by omega) (by omega) (by omega) (by omega)⟩
      rw [filter_succ _ ks hj]
      have hcd : cond nm lv en M ks[j] = if hasS nm ks[j] then decide ((val M ks[j]).1 = 0) || decide (lv * (val M ks[j]).1 ≤ 100 * (val M ks[j]).2) else decide (5 ≤ (val M ks[j]).1) && decide (en * (val M ks[j]).1 ≤ 100 * (val M ks[j]).2) := rfl
      rw [hcd]
      generalize (ks.take j).filter (cond nm lv en M) = F at hlen ⊢
      simp (disch := omega) only [obs, rC_c, rA_agg, rT_tup, rP_ptr, rW_own, rS_sb, rF_sb, uncV_cons, uncO_cons, nilV_nil, rO_ob, rN_ob, unc_cons, asI_int, asB_bool, asS_string, asSl_sl, asSl_nl, asFn_fn, asP_cp, nrm_sl, nrm_nl, need_true, ct, cf, bd_eq, natD_zero, natD_succ, natD_one, noYl_v, noYl_sl, noYl_nl, noYl_cp, noYl_fn, Bool.and_true, Bool.true_and, Bool.and_self, beqN_self, Bool.not_true, Bool.not_false, Bool.and_false, Bool.false_and, Bool.or_false, Bool.false_or, Bool.or_true, Bool.true_or, wrap_in, dlt_t, dlt_f, dle_t, dle_f, dgt_t, dgt_f, dge_t, dge_f, ibeq_t, ibeq_f, ibne_t, ibne_f, inR_int, beqN_eq, bleN_le, Int.toNat_natCast, strs_drop ks hj, asMp_mp, mfd_ent, orZ_ent, e2, hcon]
      unfold valC
      generalize ks[j] = s at *
      generalize val M s = q at *
      obtain ⟨T, R⟩ := q
      dsimp only at hv p1 p2 ⊢
      have hw1 : IntKind.i64.wrap (lv * T) = lv * T := IntWalk.i64_in _ ⟨by generalize lv * T = z at *; omega, by generalize lv * T = z at *; omega⟩
      have hw2 : IntKind.i64.wrap (en * T) = en * T := IntWalk.i64_in _ ⟨by generalize en * T = z at *; omega, by generalize en * T = z at *; omega⟩
      cases hasS nm s with
      | true =>
        by_cases hT : T = 0
        · subst hT
          simp (disch := omega) only [obs, rC_c, rA_agg, rT_tup, rP_ptr, rW_own, rS_sb, rF_sb, uncV_cons, uncO_cons, nilV_nil, rO_ob, rN_ob, unc_cons, asI_int, asB_bool, asS_string, asSl_sl, asSl_nl, asFn_fn, asP_cp, nrm_sl, nrm_nl, need_true, ct, cf, bd_eq, natD_zero, natD_succ, natD_one, noYl_v, noYl_sl, noYl_nl, noYl_cp, noYl_fn, Bool.and_true, Bool.true_and, Bool.and_self, beqN_self, Bool.not_true, Bool.not_false, Bool.and_false, Bool.false_and, Bool.or_false, Bool.false_or, Bool.or_true, Bool.true_or, wrap_in, dlt_t, dlt_f, dle_t, dle_f, dgt_t, dgt_f, dge_t, dge_f, ibeq_t, ibeq_f, ibne_t, ibne_f, inR_int, beqN_eq, bleN_le, strs_length, Nat.div_one, Nat.mul_one, Nat.zero_add, List.length_append, List.length_cons, List.length_nil, strs_snoc, if_true, decide_true]
          rfl
        · by_cases hR : lv * T ≤ 100 * R
          · simp (disch := omega) only [obs, rC_c, rA_agg, rT_tup, rP_ptr, rW_own, rS_sb, rF_sb, uncV_cons, uncO_cons, nilV_nil, rO_ob, rN_ob, unc_cons, asI_int, asB_bool, asS_string, asSl_sl, asSl_nl, asFn_fn, asP_cp, nrm_sl, nrm_nl, need_true, ct, cf, bd_eq, natD_zero, natD_succ, natD_one, noYl_v, noYl_sl, noYl_nl, noYl_cp, noYl_fn, Bool.and_true, Bool.true_and, Bool.and_self, beqN_self, Bool.not_true, Bool.not_false, Bool.and_false, Bool.false_and, Bool.or_false, Bool.false_or, Bool.or_true, Bool.true_or, wrap_in, dlt_t, dlt_f, dle_t, dle_f, dgt_t, dgt_f, dge_t, dge_f, ibeq_t, ibeq_f, ibne_t, ibne_f, inR_int, beqN_eq, bleN_le, hk40, hw1, ge_iff_le, strs_length, Nat.div_one, Nat.mul_one, Nat.zero_add, List.length_append, List.length_cons, List.length_nil, strs_snoc, if_true, decide_eq_true hR]
            rfl
          · simp (disch := omega) only [obs, rC_c, rA_agg, rT_tup, rP_ptr, rW_own, rS_sb, rF_sb, uncV_cons, uncO_cons, nilV_nil, rO_ob, rN_ob, unc_cons, asI_int, asB_bool, asS_string, asSl_sl, asSl_nl, asFn_fn, asP_cp, nrm_sl, nrm_nl, need_true, ct, cf, bd_eq, natD_zero, natD_succ, natD_one, noYl_v, noYl_sl, noYl_nl, noYl_cp, noYl_fn, Bool.and_true, Bool.true_and, Bool.and_self, beqN_self, Bool.not_true, Bool.not_false, Bool.and_false, Bool.false_and, Bool.or_false, Bool.false_or, Bool.or_true, Bool.true_or, wrap_in, dlt_t, dlt_f, dle_t, dle_f, dgt_t, dgt_f, dge_t, dge_f, ibeq_t, ibeq_f, ibne_t, ibne_f, inR_int, beqN_eq, bleN_le, hk40, hw1, ge_iff_le, strs_length, Nat.div_one, Nat.mul_one, Nat.zero_add, if_true, decide_eq_false hT, decide_eq_false hR]
            rfl
      | false =>
        by_cases hT : 5 ≤ T
        · by_cases hR : en * T ≤ 100 * R
          · simp (disch := omega) only [obs, rC_c, rA_agg, rT_tup, rP_ptr, rW_own, rS_sb, rF_sb, uncV_cons, uncO_cons, nilV_nil, rO_ob, rN_ob, unc_cons, asI_int, asB_bool, asS_string, asSl_sl, asSl_nl, asFn_fn, asP_cp, nrm_sl, nrm_nl, need_true, ct, cf, bd_eq, natD_zero, natD_succ, natD_one, noYl_v, noYl_sl, noYl_nl, noYl_cp, noYl_fn, Bool.and_true, Bool.true_and, Bool.and_self, beqN_self, Bool.not_true, Bool.not_false, Bool.and_false, Bool.false_and, Bool.or_false, Bool.false_or, Bool.or_true, Bool.true_or, wrap_in, dlt_t, dlt_f, dle_t, dle_f, dgt_t, dgt_f, dge_t, dge_f, ibeq_t, ibeq_f, ibne_t, ibne_f, inR_int, beqN_eq, bleN_le, hk39, hw2, ge_iff_le, strs_length, Nat.div_one, Nat.mul_one, Nat.zero_add, List.length_append, List.length_cons, List.length_nil, strs_snoc, decide_eq_true hT, decide_eq_true hR, Bool.false_eq_true, if_false]
            rfl
          · simp (disch := omega) only [obs, rC_c, rA_agg, rT_tup, rP_ptr, rW_own, rS_sb, rF_sb, uncV_cons, uncO_cons, nilV_nil, rO_ob, rN_ob, unc_cons, asI_int, asB_bool, asS_string, asSl_sl, asSl_nl, asFn_fn, asP_cp, nrm_sl, nrm_nl, need_true, ct, cf, bd_eq, natD_zero, natD_succ, natD_one, noYl_v, noYl_sl, noYl_nl, noYl_cp, noYl_fn, Bool.and_true, Bool.true_and, Bool.and_self, beqN_self, Bool.not_true, Bool.not_false, Bool.and_false, Bool.false_and, Bool.or_false, Bool.false_or, Bool.or_true, Bool.true_or, wrap_in, dlt_t, dlt_f, dle_t, dle_f, dgt_t, dgt_f, dge_t, dge_f, ibeq_t, ibeq_f, ibne_t, ibne_f, inR_int, beqN_eq, bleN_le, hk39, hw2, ge_iff_le, strs_length, Nat.div_one, Nat.mul_one, Nat.zero_add, decide_eq_true hT, decide_eq_false hR, Bool.false_eq_true, if_false]
            rfl
        · simp (disch := omega) only [obs, rC_c, rA_agg, rT_tup, rP_ptr, rW_own, rS_sb, rF_sb, uncV_cons, uncO_cons, nilV_nil, rO_ob, rN_ob, unc_cons, asI_int, asB_bool, asS_string, asSl_sl, asSl_nl, asFn_fn, asP_cp, nrm_sl, nrm_nl, need_true, ct, cf, bd_eq, natD_zero, natD_succ, natD_one, noYl_v, noYl_sl, noYl_nl, noYl_cp, noYl_fn, Bool.and_true, Bool.true_and, Bool.and_self, beqN_self, Bool.not_true, Bool.not_false, Bool.and_false, Bool.false_and, Bool.or_false, Bool.false_or, Bool.or_true, Bool.true_or, wrap_in, dlt_t, dlt_f, dle_t, dle_f, dgt_t, dgt_f, dge_t, dge_f, ibeq_t, ibeq_f, ibne_t, ibne_f, inR_int, beqN_eq, bleN_le, strs_length, Nat.div_one, Nat.mul_one, Nat.zero_add, decide_eq_false hT, Bool.false_eq_true, if_false]
          rfl
    · rw [List.take_length]
      simp (disch := omega) only [obs, rC_c, rA_agg, rT_tup, rP_ptr, rW_own, rS_sb, rF_sb, uncV_cons, uncO_cons, nilV_nil, rO_ob, rN_ob, unc_cons, asI_int, asB_bool, asS_string, asSl_sl, asSl_nl, asFn_fn, asP_cp, nrm_sl, nrm_nl, need_true, ct, cf, bd_eq, natD_zero, natD_succ, natD_one, noYl_v, noYl_sl, noYl_nl, noYl_cp, noYl_fn, Bool.and_true, Bool.true_and, Bool.and_self, beqN_self, Bool.not_true, Bool.not_false, Bool.and_false, Bool.false_and, Bool.or_false, Bool.false_or, Bool.or_true, Bool.true_or, wrap_in, dlt_t, dlt_f, dle_t, dle_f, dgt_t, dgt_f, dge_t, dge_f, ibeq_t, ibeq_f, ibne_t, ibne_f, inR_int, beqN_eq, bleN_le, strs_length, Nat.div_one, Nat.mul_one, Nat.zero_add]
  · have hkp : kept cy l = cy ++ [l] := by unfold kept; rw [if_neg h12]
    have hkn : (cy ++ [l]).length = cy.length + 1 := by simp
    have tC : List.take (cy.length + 1) (cycs (cy ++ [l])) = cycs (cy ++ [l]) := List.take_of_length_le (by rw [cycs_length]; omega)
    rw [hkp] at hsums hso hkeys hbnd hok2 hsl hall hkl ⊢
    rw [hkn] at hsums
    simp (disch := omega) only [obs, rC_c, rA_agg, rT_tup, rP_ptr, rW_own, rS_sb, rF_sb, uncV_cons, uncO_cons, nilV_nil, rO_ob, rN_ob, unc_cons, asI_int, asB_bool, asS_string, asSl_sl, asSl_nl, asFn_fn, asP_cp, nrm_sl, nrm_nl, need_true, ct, cf, bd_eq, natD_zero, natD_succ, natD_one, noYl_v, noYl_sl, noYl_nl, noYl_cp, noYl_fn, Bool.and_true, Bool.true_and, Bool.and_self, beqN_self, Bool.not_true, Bool.not_false, Bool.and_false, Bool.false_and, Bool.or_false, Bool.false_or, Bool.or_true, Bool.true_or, wrap_in, dlt_t, dlt_f, dle_t, dle_f, dgt_t, dgt_f, dge_t, dge_f, ibeq_t, ibeq_f, ibne_t, ibne_f, inR_int, beqN_eq, bleN_le, cycs_length, List.length_append, List.length_cons, List.length_nil, Nat.zero_add, tC, tL, hL, hsums, noYl_mp, pr_keys, hso]
    generalize sumsM (cy ++ [l]) nm = M at *
    generalize hks : sortB (keys M) = ks at *
    rw [show C.sl (cy.length + 1) (cycs (cy ++ [l])) = C.sl (cy ++ [l]).length (cycs (cy ++ [l])) by rw [hkn]]
    rw [iter_runx (fun j : Nat => (((j : Nat) : Int), (C.nl, C.nl, ()), (C.sl (cy ++ [l]).length (cycs (cy ++ [l])), strs ((ks.take j).filter (cond nm lv en M)), ()), ())) 0 ((ks.length : Int), (C.nl, C.nl, ()), (C.sl (cy ++ [l]).length (cycs (cy ++ [l])), strs (ks.filter (cond nm lv en M)), ()), ()) ks.length ?_ ?_ ?_ (by omega)]
    · have hfl : (ks.filter (cond nm lv en M)).length ≤ 150 := Nat.le_trans (List.length_filter_le _ _) hkeys
      have t1 : List.take (ks.filter (cond nm lv en M)).length (strs (ks.filter (cond nm lv en M))) = strs (ks.filter (cond nm lv en M)) := List.take_of_length_le (by rw [strs_length]; omega)
      simp (disch := omega) only [obs, rC_c, rA_agg, rT_tup, rP_ptr, rW_own, rS_sb, rF_sb, uncV_cons, uncO_cons, nilV_nil, rO_ob, rN_ob, unc_cons, asI_int, asB_bool, asS_string, asSl_sl, asSl_nl, asFn_fn, asP_cp, nrm_sl, nrm_nl, need_true, ct, cf, bd_eq, natD_zero, natD_succ, natD_one, noYl_v, noYl_sl, noYl_nl, noYl_cp, noYl_fn, Bool.and_true, Bool.true_and, Bool.and_self, beqN_self, Bool.not_true, Bool.not_false, Bool.and_false, Bool.false_and, Bool.or_false, Bool.false_or, Bool.or_true, Bool.true_or, wrap_in, dlt_t, dlt_f, dle_t, dle_f, dgt_t, dgt_f, dge_t, dge_f, ibeq_t, ibeq_f, ibne_t, ibne_f, inR_int, beqN_eq, bleN_le, strs_length, Nat.div_one, Nat.mul_one, Nat.zero_add, t1]
    · rfl
    · intro j hj
      have hlen : ((ks.take j).filter (cond nm lv en M)).length ≤ 150 := Nat.le_trans (List.length_filter_le _ _) (by rw [List.length_take]; omega)
      have hcon := sp_Contains fu (d + 11) hf nm ks[j] (by omega)
      have hv := hbnd ks[j]
      have p1 : 0 ≤ lv * (val M ks[j]).1 ∧ lv * (val M ks[j]).1 ≤ 100 * 195000000 := ⟨Int.mul_nonneg (by omega) (by omega), Int.mul_le_mul (by omega) (by omega) (by omega) (by omega)⟩
      have p2 : 0 ≤ en * (val M ks[j]).1 ∧ en * (val M ks[j]).1 ≤ 100 * 195000000 := ⟨Int.mul_nonneg (by omega) (by omega), Int.mul_le_mul (by omega) (by omega) (by omega) (by omega)⟩
      rw [filter_succ _ ks hj]
      have hcd : cond nm lv en M ks[j] = if hasS nm ks[j] then decide ((val M ks[j]).1 = 0) || decide (lv * (val M ks[j]).1 ≤ 100 * (val M ks[j]).2) else decide (5 ≤ (val M ks[j]).1) && decide (en * (val M ks[j]).1 ≤ 100 * (val M ks[j]).2) := rfl
      rw [hcd]
      generalize (ks.take j).filter (cond nm lv en M) = F at hlen ⊢
      simp (disch := omega) only [obs, rC_c, rA_agg, rT_tup, rP_ptr, rW_own, rS_sb, rF_sb, uncV_cons, uncO_cons, nilV_nil, rO_ob, rN_ob, unc_cons, asI_int, asB_bool, asS_string, asSl_sl, asSl_nl, asFn_fn, asP_cp, nrm_sl, nrm_nl, need_true, ct, cf, bd_eq, natD_zero, natD_succ, natD_one, noYl_v, noYl_sl, noYl_nl, noYl_cp, noYl_fn, Bool.and_true, Bool.true_and, Bool.and_self, beqN_self, Bool.not_true, Bool.not_false, Bool.and_false, Bool.false_and, Bool.or_false, Bool.false_or, Bool.or_true, Bool.true_or, wrap_in, dlt_t, dlt_f, dle_t, dle_f, dgt_t, dgt_f, dge_t, dge_f, ibeq_t, ibeq_f, ibne_t, ibne_f, inR_int, beqN_eq, bleN_le, Int.toNat_natCast, strs_drop ks hj, asMp_mp, mfd_ent, orZ_ent, e2, hcon]
      unfold valC
      generalize ks[j] = s at *
      generalize val M s = q at *
      obtain ⟨T, R⟩ := q
      dsimp only at hv p1 p2 ⊢
      have hw1 : IntKind.i64.wrap (lv * T) = lv * T := IntWalk.i64_in _ ⟨by generalize lv * T = z at *; omega, by generalize lv * T = z at *; omega⟩
      have hw2 : IntKind.i64.wrap (en * T) = en * T := IntWalk.i64_in _ ⟨by generalize en * T = z at *; omega, by generalize en * T = z at *; omega⟩
      cases hasS nm s with
      | true =>
        by_cases hT : T = 0
        · subst hT
          simp (disch := omega) only [obs, rC_c, rA_agg, rT_tup, rP_ptr, rW_own, rS_sb, rF_sb, uncV_cons, uncO_cons, nilV_nil, rO_ob, rN_ob, unc_cons, asI_int, asB_bool, asS_string, asSl_sl, asSl_nl, asFn_fn, asP_cp, nrm_sl, nrm_nl, need_true, ct, cf, bd_eq, natD_zero, natD_succ, natD_one, noYl_v, noYl_sl, noYl_nl, noYl_cp, noYl_fn, Bool.and_true, Bool.true_and, Bool.and_self, beqN_self, Bool.not_true, Bool.not_false, Bool.and_false, Bool.false_and, Bool.or_false, Bool.false_or, Bool.or_true, Bool.true_or, wrap_in, dlt_t, dlt_f, dle_t, dle_f, dgt_t, dgt_f, dge_t, dge_f, ibeq_t, ibeq_f, ibne_t, ibne_f, inR_int, beqN_eq, bleN_le, strs_length, Nat.div_one, Nat.mul_one, Nat.zero_add, List.length_append, List.length_cons, List.length_nil, strs_snoc, if_true, decide_true]
          rfl
        · by_cases hR : lv * T ≤ 100 * R
          · simp (disch := omega) only [obs, rC_c, rA_agg, rT_tup, rP_ptr, rW_own, rS_sb, rF_sb, uncV_cons, uncO_cons, nilV_nil, rO_ob, rN_ob, unc_cons, asI_int, asB_bool, asS_string, asSl_sl, asSl_nl, asFn_fn, asP_cp, nrm_sl, nrm_nl, need_true, ct, cf, bd_eq, natD_zero, natD_succ, natD_one, noYl_v, noYl_sl, noYl_nl, noYl_cp, noYl_fn, Bool.and_true, Bool.true_and, Bool.and_self, beqN_self, Bool.not_true, Bool.not_false, Bool.and_false, Bool.false_and, Bool.or_false, Bool.false_or, Bool.or_true, Bool.true_or, wrap_in, dlt_t, dlt_f, dle_t, dle_f, dgt_t, dgt_f, dge_t, dge_f, ibeq_t, ibeq_f, ibne_t, ibne_f, inR_int, beqN_eq, bleN_le, hk40, hw1, ge_iff_le, strs_length, Nat.div_one, Nat.mul_one, Nat.zero_add, List.length_append, List.length_cons, List.length_nil, strs_snoc, if_true, decide_eq_true hR]
            rfl
          · simp (disch := omega) only [obs, rC_c, rA_agg, rT_tup, rP_ptr, rW_own, rS_sb, rF_sb, uncV_cons, uncO_cons, nilV_nil, rO_ob, rN_ob, unc_cons, asI_int, asB_bool, asS_string, asSl_sl, asSl_nl, asFn_fn, asP_cp, nrm_sl, nrm_nl, need_true, ct, cf, bd_eq, natD_zero, natD_succ, natD_one, noYl_v, noYl_sl, noYl_nl, noYl_cp, noYl_fn, Bool.and_true, Bool.true_and, Bool.and_self, beqN_self, Bool.not_true, Bool.not_false, Bool.and_false, Bool.false_and, Bool.or_false, Bool.false_or, Bool.or_true, Bool.true_or, wrap_in, dlt_t, dlt_f, dle_t, dle_f, dgt_t, dgt_f, dge_t, dge_f, ibeq_t, ibeq_f, ibne_t, ibne_f, inR_int, beqN_eq, bleN_le, hk40, hw1, ge_iff_le, strs_length, Nat.div_one, Nat.mul_one, Nat.zero_add, if_true, decide_eq_false hT, decide_eq_false hR]
            rfl
      | false =>
        by_cases hT : 5 ≤ T
        · by_cases hR : en * T ≤ 100 * R
          · simp (disch := omega) only [obs, rC_c, rA_agg, rT_tup, rP_ptr, rW_own, rS_sb, rF_sb, uncV_cons, uncO_cons, nilV_nil, rO_ob, rN_ob, unc_cons, asI_int, asB_bool, asS_string, asSl_sl, asSl_nl, asFn_fn, asP_cp, nrm_sl, nrm_nl, need_true, ct, cf, bd_eq, natD_zero, natD_succ, natD_one, noYl_v, noYl_sl, noYl_nl, noYl_cp, noYl_fn, Bool.and_true, Bool.true_and, Bool.and_self, beqN_self, Bool.not_true, Bool.not_false, Bool.and_false, Bool.false_and, Bool.or_false, Bool.false_or, Bool.or_true, Bool.true_or, wrap_in, dlt_t, dlt_f, dle_t, dle_f, dgt_t, dgt_f, dge_t, dge_f, ibeq_t, ibeq_f, ibne_t, ibne_f, inR_int, beqN_eq, bleN_le, hk39, hw2, ge_iff_le, strs_length, Nat.div_one, Nat.mul_one, Nat.zero_add, List.length_append, List.length_cons, List.length_nil, strs_snoc, decide_eq_true hT, decide_eq_true hR, Bool.false_eq_true, if_false]
            rfl
          · simp (disch := omega) only [obs, rC_c, rA_agg, rT_tup, rP_ptr, rW_own, rS_sb, rF_sb, uncV_cons, uncO_cons, nilV_nil, rO_ob, rN_ob, unc_cons, asI_int, asB_bool, asS_string, asSl_sl, asSl_nl, asFn_fn, asP_cp, nrm_sl, nrm_nl, need_true, ct, cf, bd_eq, natD_zero, natD_succ, natD_one, noYl_v, noYl_sl, noYl_nl, noYl_cp, noYl_fn, Bool.and_true, Bool.true_and, Bool.and_self, beqN_self, Bool.not_true, Bool.not_false, Bool.and_false, Bool.false_and, Bool.or_false, Bool.false_or, Bool.or_true, Bool.true_or, wrap_in, dlt_t, dlt_f, dle_t, dle_f, dgt_t, dgt_f, dge_t, dge_f, ibeq_t, ibeq_f, ibne_t, ibne_f, inR_int, beqN_eq, bleN_le, hk39, hw2, ge_iff_le, strs_length, Nat.div_one, Nat.mul_one, Nat.zero_add, decide_eq_true hT, decide_eq_false hR, Bool.false_eq_true, if_false]
            rfl
        · simp (disch := omega) only [obs, rC_c, rA_agg, rT_tup, rP_ptr, rW_own, rS_sb, rF_sb, uncV_cons, uncO_cons, nilV_nil, rO_ob, rN_ob, unc_cons, asI_int, asB_bool, asS_string, asSl_sl, asSl_nl, asFn_fn, asP_cp, nrm_sl, nrm_nl, need_true, ct, cf, bd_eq, natD_zero, natD_succ, natD_one, noYl_v, noYl_sl, noYl_nl, noYl_cp, noYl_fn, Bool.and_true, Bool.true_and, Bool.and_self, beqN_self, Bool.not_true, Bool.not_false, Bool.and_false, Bool.false_and, Bool.or_false, Bool.false_or, Bool.or_true, Bool.true_or, wrap_in, dlt_t, dlt_f, dle_t, dle_f, dgt_t, dgt_f, dge_t, dge_f, ibeq_t, ibeq_f, ibne_t, ibne_f, inR_int, beqN_eq, bleN_le, strs_length, Nat.div_one, Nat.mul_one, Nat.zero_add, decide_eq_false hT, Bool.false_eq_true, if_false]
          rfl
    · rw [List.take_length]
      simp (disch := omega) only [obs, rC_c, rA_agg, rT_tup, rP_ptr, rW_own, rS_sb, rF_sb, uncV_cons, uncO_cons, nilV_nil, rO_ob, rN_ob, unc_cons, asI_int, asB_bool, asS_string, asSl_sl, asSl_nl, asFn_fn, asP_cp, nrm_sl, nrm_nl, need_true, ct, cf, bd_eq, natD_zero, natD_succ, natD_one, noYl_v, noYl_sl, noYl_nl, noYl_cp, noYl_fn, Bool.and_true, Bool.true_and, Bool.and_self, beqN_self, Bool.not_true, Bool.not_false, Bool.and_false, Bool.false_and, Bool.or_false, Bool.false_or, Bool.or_true, Bool.true_or, wrap_in, dlt_t, dlt_f, dle_t, dle_f, dgt_t, dgt_f, dge_t, dge_f, ibeq_t, ibeq_f, ibne_t, ibne_f, inR_int, beqN_eq, bleN_le, strs_length, Nat.div_one, Nat.mul_one, Nat.zero_add]
end
end Go.Proofs.Ytofalpngdbinbaa
/- The six names; histories that have no others. -/
namespace Go.Proofs.Ytofalpngdbinbaa
open Go Go.PM

def n0 : ByteArray := ⟨#[48, 49, 50, 51, 52]⟩
def n1 : ByteArray := ⟨#[55, 55, 55, 55, 55]⟩
def n2 : ByteArray := ⟨#[65, 76, 80, 72, 65]⟩
def n3 : ByteArray := ⟨#[66, 82, 65, 86, 79]⟩
def n4 : ByteArray := ⟨#[68, 69, 76, 84, 65]⟩
def n5 : ByteArray := ⟨#[69, 67, 72, 79, 55]⟩
def names6 : List ByteArray := [n0, n1, n2, n3, n4, n5]
theorem all6 {p : ByteArray → Prop} (h : p n0 ∧ p n1 ∧ p n2 ∧ p n3 ∧ p n4 ∧ p n5) : ∀ s ∈ names6, p s := by
  obtain ⟨h0, h1, h2, h3, h4, h5⟩ := h
  intro s hs
  simp only [names6, List.mem_cons, List.not_mem_nil, or_false] at hs
  rcases hs with rfl | rfl | rfl | rfl | rfl | rfl <;> assumption

def ltB (a b : ByteArray) : Bool := Op.bytesLess (byt a) (byt b)
theorem ltS_eq (a b : ByteArray) : ltS a b = ltB a b := by unfold ltS ltB byt; rw [toList_eq, toList_eq]
theorem ok6 : ∀ s ∈ names6, nameOk s := all6 ⟨⟨by decide, by decide⟩, ⟨by decide, by decide⟩, ⟨by decide, by decide⟩, ⟨by decide, by decide⟩, ⟨by decide, by decide⟩, ⟨by decide, by decide⟩⟩
/-- Which of the names it is. -/
def rk (s : ByteArray) : Nat := if s = n0 then 0 else if s = n1 then 1 else if s = n2 then 2 else if s = n3 then 3 else if s = n4 then 4 else 5
theorem rk_lt (s : ByteArray) : rk s < 6 := by unfold rk; (repeat' split) <;> omega
theorem ltB_rk : ∀ a ∈ names6, ∀ b ∈ names6, (ltB a b = true ↔ rk a < rk b) := by
  refine all6 ⟨?_, ?_, ?_, ?_, ?_, ?_⟩ <;> (refine all6 ⟨?_, ?_, ?_, ?_, ?_, ?_⟩ <;> decide)
theorem leB_rk : ∀ a ∈ names6, ∀ b ∈ names6, (leB (byt a) (byt b) = true ↔ rk a ≤ rk b) := by
  refine all6 ⟨?_, ?_, ?_, ?_, ?_, ?_⟩ <;> (refine all6 ⟨?_, ?_, ?_, ?_, ?_, ?_⟩ <;> decide)
theorem rk_inj : ∀ a ∈ names6, ∀ b ∈ names6, (rk a = rk b → a = b) := by
  refine all6 ⟨?_, ?_, ?_, ?_, ?_, ?_⟩ <;> (refine all6 ⟨?_, ?_, ?_, ?_, ?_, ?_⟩ <;> decide)

def asc6 (l : List ByteArray) : Prop := l.Pairwise fun a b => rk a < rk b
def in6 (l : List ByteArray) : Prop := ∀ s ∈ l, s ∈ names6
theorem asc6.asc {l : List ByteArray} (h : asc6 l) (hl : in6 l) : asc l := by
  intro j a b ha hb
  have hj : j + 1 < l.length := (List.getElem?_eq_some_iff.1 hb).1
  have := List.pairwise_iff_getElem.1 h j (j + 1) (by omega) hj (by omega)
  have e1 : l[j] = a := by simpa [show j < l.length by omega] using ha
  have e2 : l[j + 1] = b := by simpa [hj] using hb
  rw [e1, e2] at this
  rw [ltS_eq, ltB_rk a (hl a (List.mem_of_getElem? ha)) b (hl b (List.mem_of_getElem? hb))]
  exact this
theorem asc6.length : ∀ {l : List ByteArray} (h : asc6 l), l.length ≤ 6 := by
  have key : ∀ (l : List ByteArray) (k : Nat), asc6 l → (∀ s ∈ l, k ≤ rk s) → l.length + k ≤ 6 ∨ l = [] := by
    intro l
    induction l with
    | nil => intro k _ _; exact .inr rfl
    | cons a l ih =>
      intro k h hk
      have h1 := List.pairwise_cons.1 h
      have ha := hk a (by simp)
      have hlt := rk_lt a
      rcases ih (rk a + 1) h1.2 (fun s hs => h1.1 s hs) with h2 | rfl
      · left; simp only [List.length_cons]; omega
      · left; simp only [List.length_cons, List.length_nil]; omega
  intro l h
  rcases key l 0 h (fun _ _ => Nat.zero_le _) with h2 | rfl
  · omega
  · simp
theorem asc6.filter {l : List ByteArray} (h : asc6 l) (p : ByteArray → Bool) : asc6 (l.filter p) := List.Pairwise.filter p h
theorem in6.filter {l : List ByteArray} (h : in6 l) (p : ByteArray → Bool) : in6 (l.filter p) := fun s hs => h s (List.mem_filter.1 hs).1

def cnt6 (c : Cnt) : Prop := c.nm ∈ names6 ∧ (0 ≤ c.t ∧ c.t ≤ 100000) ∧ (0 ≤ c.r ∧ c.r ≤ c.t)
def cyc6 (l : List Cnt) : Prop := (∀ c ∈ l, cnt6 c) ∧ asc6 (l.map Cnt.nm)
def hist6 (cy : List (List Cnt)) (nm : List ByteArray) : Prop := cy.length ≤ 12 ∧ (∀ l ∈ cy, cyc6 l) ∧ in6 nm ∧ asc6 nm
theorem cyc6.in6 {l : List Cnt} (h : cyc6 l) : in6 (l.map Cnt.nm) := fun s hs => by
  obtain ⟨c, hc, rfl⟩ := List.mem_map.1 hs
  exact (h.1 c hc).1
theorem cyc6.ok {l : List Cnt} (h : cyc6 l) : cycleOk l :=
  ⟨by have := h.2.length; simp at this; omega, fun c hc => ⟨ok6 _ (h.1 c hc).1, (h.1 c hc).2⟩, h.2.asc h.in6⟩
theorem hist6.ok {cy : List (List Cnt)} {nm : List ByteArray} (h : hist6 cy nm) : histOk cy nm :=
  ⟨h.1, fun l hl => (h.2.1 l hl).ok, by have := h.2.2.2.length; omega, fun s hs => ok6 s (h.2.2.1 s hs), h.2.2.2.asc h.2.2.1⟩

theorem sortB_mem {ks : List ByteArray} {s : ByteArray} : s ∈ sortB ks ↔ s ∈ ks := by
  unfold sortB
  have hp := List.mergeSort_perm (ks.map byt) leB
  constructor
  · intro h
    obtain ⟨x, hx, rfl⟩ := List.mem_map.1 h
    obtain ⟨y, hy, rfl⟩ := List.mem_map.1 (hp.mem_iff.1 hx)
    simpa [byt] using hy
  · intro h
    exact List.mem_map.2 ⟨byt s, hp.mem_iff.2 (List.mem_map.2 ⟨s, h, rfl⟩), by simp [byt]⟩
theorem sortB_asc6 {ks : List ByteArray} (hn : ks.Nodup) (h6 : in6 ks) : asc6 (sortB ks) := by
  have tr : ∀ a b c : List UInt8, leB a b = true → leB b c = true → leB a c = true := fun a b c h1 h2 => by simp only [leB, decide_eq_true_eq] at *; exact List.le_trans h1 h2
  have to : ∀ a b : List UInt8, (leB a b || leB b a) = true := fun a b => by simp only [leB, Bool.or_eq_true, decide_eq_true_eq]; exact List.le_total a b
  have h1 : (sortB ks).Pairwise fun a b => leB (byt a) (byt b) = true := by
    unfold sortB
    rw [List.pairwise_map]
    exact List.pairwise_mergeSort tr to _
  have h2 : (sortB ks).Nodup := by
    have hp : (sortB ks).Perm ks := by
      unfold sortB
      have := (List.mergeSort_perm (ks.map byt) leB).map fun l => (⟨l.toArray⟩ : ByteArray)
      rw [List.map_map] at this
      have e : ks.map ((fun l => (⟨l.toArray⟩ : ByteArray)) ∘ byt) = ks := by
        rw [show ((fun l => (⟨l.toArray⟩ : ByteArray)) ∘ byt) = id from funext fun s => by simp [byt]]; simp
      rw [e] at this; exact this
    exact hp.nodup_iff.2 hn
  have h3 : in6 (sortB ks) := fun s hs => h6 s (sortB_mem.1 hs)
  refine List.pairwise_iff_getElem.2 fun i j hi hj hij => ?_
  have q1 := List.pairwise_iff_getElem.1 h1 i j hi hj hij
  have q2 := List.pairwise_iff_getElem.1 h2 i j hi hj hij
  have m1 := h3 _ (List.getElem_mem hi)
  have m2 := h3 _ (List.getElem_mem hj)
  have := (leB_rk _ m1 _ m2).1 q1
  have : rk (sortB ks)[i] ≠ rk (sortB ks)[j] := fun e => q2 (rk_inj _ m1 _ m2 e)
  omega

theorem sums_in6 {cy : List (List Cnt)} {nm : List ByteArray} (hc : ∀ l ∈ cy, cyc6 l) (hn : in6 nm) : in6 (keys (sumsM cy nm)) := fun s hs => by
  rcases (mem_sums s _ _).1 hs with h | ⟨l, hl, h⟩
  · exact hn s h
  · exact (hc l hl).in6 s h
theorem sums_len {cy : List (List Cnt)} {nm : List ByteArray} (hc : ∀ l ∈ cy, cyc6 l) (hn : in6 nm) : (keys (sumsM cy nm)).length ≤ 150 := by
  have := (sortB_asc6 (nodup_sums cy nm) (sums_in6 hc hn)).length
  rw [sortB_length] at this
  omega
theorem hist6.push {cy : List (List Cnt)} {nm : List ByteArray} (h : hist6 cy nm) {l : List Cnt} (hl : cyc6 l) (lv en : Int) : hist6 (kept cy l) (listed nm lv en (sumsM (kept cy l) nm)) := by
  have hk := kept_all (P := cyc6) h.2.1 hl
  refine ⟨kept_length h.1, hk, ?_, ?_⟩
  · exact in6.filter (fun s hs => sums_in6 hk h.2.2.1 s (sortB_mem.1 hs)) _
  · exact (sortB_asc6 (nodup_sums _ _) (sums_in6 hk h.2.2.1)).filter _

/-- Push at histories of the six names. -/
theorem sp_Push6 (fu d : Nat) (hf : 18446744073709551616 ≤ fu) {h1 h2 : C} {cy : List (List Cnt)} {nm : List ByteArray} (e1 : nrm h1 = .sl cy.length (cycs cy)) (e2 : nrm h2 = .sl nm.length (strs nm)) (h : hist6 cy nm)
    {l : List Cnt} (hl : cyc6 l) {a2 : List C} {lv en : Int} {r40 r39 : List C} (hk40 : List.drop 40 a2 = C.v (.int .i64 lv) :: r40) (hk39 : List.drop 39 a2 = C.v (.int .i64 en) :: r39) (hlv : 1 ≤ lv ∧ lv ≤ en ∧ en ≤ 100) :
    cl fu (d + 14) fn_blacklist_Push [V.agg [h1, h2], V.c (cyC l), V.agg a2] [] =
      some ⟨V.tup [V.agg [C.sl (kept cy l).length (cycs (kept cy l)), C.sl (listed nm lv en (sumsM (kept cy l) nm)).length (strs (listed nm lv en (sumsM (kept cy l) nm)))], I 0], [], none⟩ :=
  sp_Push fu d hf e1 e2 h.ok hl.ok hk40 hk39 hlv (sums_len (kept_all (P := cyc6) h.2.1 hl) h.2.2.1)
end Go.Proofs.Ytofalpngdbinbaa
/- The chapter's own functions at the six names: Name, in, put. -/
namespace Go.Proofs.Ytofalpngdbinbaa
open Go Go.PM

def refOk (s : ByteArray) : Prop := s.size = 5 ∧ ∀ i, i < 5 → (65 ≤ (s.data.getD i 0).toNat ∧ (s.data.getD i 0).toNat ≤ 90) ∨ (48 ≤ (s.data.getD i 0).toNat ∧ (s.data.getD i 0).toNat ≤ 57)
theorem refOk6 : ∀ s ∈ names6, refOk s := all6 ⟨⟨by decide, by decide⟩, ⟨by decide, by decide⟩, ⟨by decide, by decide⟩, ⟨by decide, by decide⟩, ⟨by decide, by decide⟩, ⟨by decide, by decide⟩⟩

/-- A list of names, nil where it is empty. -/
def encP (l : List ByteArray) : C := match l with | [] => .nl | _ :: _ => .sl l.length (strs l)
theorem encP_sl {l : List ByteArray} (h : l ≠ []) : encP l = .sl l.length (strs l) := by cases l with | nil => exact absurd rfl h | cons a l => rfl
theorem asSl_encP {R : Type} (l : List ByteArray) (k : Nat → List C → Option R) : asSl (encP l) k = k l.length (strs l) := by cases l <;> rfl
theorem noYl_encP (l : List ByteArray) : noYl [V.c (encP l)] = true := by cases l <;> rfl

section
variable (fu d : Nat) (hf : 18446744073709551616 ≤ fu)
include hf
theorem sp_refName {s : ByteArray} (h : refOk s) : cl fu (d + 1) fn_synopticref05_Name [V.c (.v (.string s))] [] = some ⟨B true, [], none⟩ := by
  obtain ⟨h5, hb⟩ := h
  rw [eq_synopticref05_Name, h5]
  rw [iter_runx (fun j : Nat => (false, ((j : Nat) : Int), ())) 0 (false, (5 : Int), ()) 5 ?_ ?_ ?_ (by omega)]
  · rfl
  · rfl
  · intro j hj
    have hbj := hb j hj
    simp only [Int.toNat_natCast]
    have hin : inR (j : Int) 5 = true := by simp [inR]; omega
    rcases hbj with ⟨h1, h2⟩ | ⟨h1, h2⟩
    · simp (disch := omega) only [obs, rC_c, rA_agg, rT_tup, rP_ptr, rW_own, rS_sb, rF_sb, uncV_cons, uncO_cons, nilV_nil, rO_ob, rN_ob, unc_cons, asI_int, asB_bool, asS_string, asSl_sl, asSl_nl, asFn_fn, asP_cp, nrm_sl, nrm_nl, need_true, ct, cf, bd_eq, natD_zero, natD_succ, natD_one, noYl_v, noYl_sl, noYl_nl, noYl_cp, noYl_fn, Bool.and_true, Bool.true_and, Bool.and_self, beqN_self, Bool.not_true, Bool.not_false, Bool.and_false, Bool.false_and, Bool.or_false, Bool.false_or, Bool.or_true, Bool.true_or, wrap_in, dlt_t, dlt_f, dle_t, dle_f, dgt_t, dgt_f, dge_t, dge_f, ibeq_t, ibeq_f, ibne_t, ibne_f, inR_int, beqN_eq, bleN_le, hin]
      rfl
    · have h3 : decide (((s.data.getD j 0).toNat : Int) ≥ 65) = false := decide_eq_false (by omega)
      simp (disch := omega) only [obs, rC_c, rA_agg, rT_tup, rP_ptr, rW_own, rS_sb, rF_sb, uncV_cons, uncO_cons, nilV_nil, rO_ob, rN_ob, unc_cons, asI_int, asB_bool, asS_string, asSl_sl, asSl_nl, asFn_fn, asP_cp, nrm_sl, nrm_nl, need_true, ct, cf, bd_eq, natD_zero, natD_succ, natD_one, noYl_v, noYl_sl, noYl_nl, noYl_cp, noYl_fn, Bool.and_true, Bool.true_and, Bool.and_self, beqN_self, Bool.not_true, Bool.not_false, Bool.and_false, Bool.false_and, Bool.or_false, Bool.false_or, Bool.or_true, Bool.true_or, wrap_in, dlt_t, dlt_f, dle_t, dle_f, dgt_t, dgt_f, dge_t, dge_f, ibeq_t, ibeq_f, ibne_t, ibne_f, inR_int, beqN_eq, bleN_le, hin, h3]
      rfl
  · rfl

theorem sp_in (l : List ByteArray) (s : ByteArray) (hl : l.length ≤ 1000000) : cl fu (d + 1) fn_synopticref19_in [V.c (.sl l.length (strs l)), V.c (.v (.string s))] [] = some ⟨B (hasS l s), [], none⟩ := by
  rw [eq_synopticref19_in]
  have step : ∀ j (hj : j < l.length), l[j] ≠ s → (l[j].toList == s.toList) = false := fun j hj hn => by
    rw [toList_beq, decide_eq_false hn]
  rcases first_or_none (fun j => l[j]? = some s) l.length with h | ⟨k, hk, h1, h2⟩
  · have hn : hasS l s = false := by
      cases e : hasS l s with
      | false => rfl
      | true =>
        obtain ⟨j, hj, e2⟩ := List.mem_iff_getElem.1 (hasS_iff.1 e)
        exact absurd (by simp [hj, e2]) (h j hj)
    rw [iter_runx (fun j : Nat => (false, ((j : Nat) : Int), ())) 0 (false, (l.length : Int), ()) l.length ?_ ?_ ?_ (by omega)]
    · rw [hn]; rfl
    · rfl
    · intro j hj
      have hne : l[j] ≠ s := fun e => h j hj (by simp [hj, e])
      rw [strs_fl]
      simp (disch := omega) only [obs, rC_c, rA_agg, rT_tup, rP_ptr, rW_own, rS_sb, rF_sb, uncV_cons, uncO_cons, nilV_nil, rO_ob, rN_ob, unc_cons, asI_int, asB_bool, asS_string, asSl_sl, asSl_nl, asFn_fn, asP_cp, nrm_sl, nrm_nl, need_true, ct, cf, bd_eq, natD_zero, natD_succ, natD_one, noYl_v, noYl_sl, noYl_nl, noYl_cp, noYl_fn, Bool.and_true, Bool.true_and, Bool.and_self, beqN_self, Bool.not_true, Bool.not_false, Bool.and_false, Bool.false_and, Bool.or_false, Bool.false_or, Bool.or_true, Bool.true_or, wrap_in, dlt_t, dlt_f, dle_t, dle_f, dgt_t, dgt_f, dge_t, dge_f, ibeq_t, ibeq_f, ibne_t, ibne_f, inR_int, beqN_eq, bleN_le, Int.toNat_natCast, fl_at sc_length hj, sc, List.cons_append, step j hj hne]
      rfl
    · simp (disch := omega) only [obs, rC_c, rA_agg, rT_tup, rP_ptr, rW_own, rS_sb, rF_sb, uncV_cons, uncO_cons, nilV_nil, rO_ob, rN_ob, unc_cons, asI_int, asB_bool, asS_string, asSl_sl, asSl_nl, asFn_fn, asP_cp, nrm_sl, nrm_nl, need_true, ct, cf, bd_eq, natD_zero, natD_succ, natD_one, noYl_v, noYl_sl, noYl_nl, noYl_cp, noYl_fn, Bool.and_true, Bool.true_and, Bool.and_self, beqN_self, Bool.not_true, Bool.not_false, Bool.and_false, Bool.false_and, Bool.or_false, Bool.false_or, Bool.or_true, Bool.true_or, wrap_in, dlt_t, dlt_f, dle_t, dle_f, dgt_t, dgt_f, dge_t, dge_f, ibeq_t, ibeq_f, ibne_t, ibne_f, inR_int, beqN_eq, bleN_le]
  · have hks : l[k] = s := by have := h1; simpa [hk] using this
    have hn : hasS l s = true := hasS_iff.2 (hks ▸ List.getElem_mem hk)
    rw [iter_runx (fun j : Nat => (false, ((j : Nat) : Int), ())) 1 (true, (k : Int), ()) k ?_ ?_ ?_ (by omega)]
    · rw [hn]; rfl
    · rfl
    · intro j hj
      have hj' : j < l.length := by omega
      have hne : l[j] ≠ s := fun e => h2 j hj (by simp [hj', e])
      rw [strs_fl]
      simp (disch := omega) only [obs, rC_c, rA_agg, rT_tup, rP_ptr, rW_own, rS_sb, rF_sb, uncV_cons, uncO_cons, nilV_nil, rO_ob, rN_ob, unc_cons, asI_int, asB_bool, asS_string, asSl_sl, asSl_nl, asFn_fn, asP_cp, nrm_sl, nrm_nl, need_true, ct, cf, bd_eq, natD_zero, natD_succ, natD_one, noYl_v, noYl_sl, noYl_nl, noYl_cp, noYl_fn, Bool.and_true, Bool.true_and, Bool.and_self, beqN_self, Bool.not_true, Bool.not_false, Bool.and_false, Bool.false_and, Bool.or_false, Bool.false_or, Bool.or_true, Bool.true_or, wrap_in, dlt_t, dlt_f, dle_t, dle_f, dgt_t, dgt_f, dge_t, dge_f, ibeq_t, ibeq_f, ibne_t, ibne_f, inR_int, beqN_eq, bleN_le, Int.toNat_natCast, fl_at sc_length hj', sc, List.cons_append, step j hj' hne]
      rfl
    · rw [strs_fl]
      simp (disch := omega) only [obs, rC_c, rA_agg, rT_tup, rP_ptr, rW_own, rS_sb, rF_sb, uncV_cons, uncO_cons, nilV_nil, rO_ob, rN_ob, unc_cons, asI_int, asB_bool, asS_string, asSl_sl, asSl_nl, asFn_fn, asP_cp, nrm_sl, nrm_nl, need_true, ct, cf, bd_eq, natD_zero, natD_succ, natD_one, noYl_v, noYl_sl, noYl_nl, noYl_cp, noYl_fn, Bool.and_true, Bool.true_and, Bool.and_self, beqN_self, Bool.not_true, Bool.not_false, Bool.and_false, Bool.false_and, Bool.or_false, Bool.false_or, Bool.or_true, Bool.true_or, wrap_in, dlt_t, dlt_f, dle_t, dle_f, dgt_t, dgt_f, dge_t, dge_f, ibeq_t, ibeq_f, ibne_t, ibne_f, inR_int, beqN_eq, bleN_le, Int.toNat_natCast, fl_at sc_length hk, sc, List.cons_append, hks, beq_self_eq_true]

theorem sp_put {l : List ByteArray} {s : ByteArray} (ha : asc6 l) (h6 : in6 l) (hs : s ∈ names6) :
    ∃ l', cl fu (d + 1) fn_synopticref19_put [V.c (encP l), V.c (.v (.string s))] [] = some ⟨V.c (encP l'), [], none⟩ ∧ asc6 l' ∧ in6 l' ∧ ∀ x, x ∈ l' ↔ x = s ∨ x ∈ l := by
  by_cases hl : l = []
  · subst hl
    refine ⟨[s], ?_, by simp [asc6], by simpa [in6] using hs, by simp⟩
    show cl fu (d + 1) fn_synopticref19_put [V.c C.nl, V.c (.v (.string s))] [] = _
    rw [eqn0_synopticref19_put]
    rw [iter_runx (fun j : Nat => (((j : Nat) : Int), ())) 0 ((0 : Int), ()) 0 ?_ ?_ ?_ (by omega)]
    · rfl
    · rfl
    · intro j hj; omega
    · rfl
  · have hlen := ha.length
    have hL := strs_length l
    have hTk : ∀ k, List.take k (strs l) = strs (l.take k) := fun k => by simp [strs]
    have hDk : ∀ k, List.drop k (strs l) = strs (l.drop k) := fun k => by simp [strs]
    rw [encP_sl hl, eq_synopticref19_put]
    obtain ⟨k, hk, hbelow, hat⟩ : ∃ k, k ≤ l.length ∧ (∀ j (hj : j < k) (h : j < l.length), ltS l[j] s = true) ∧ ∀ h : k < l.length, ltS l[k] s = false := by
      rcases first_or_none (fun j => ∃ h : j < l.length, ltS l[j] s = false) l.length with h | ⟨k, hk, ⟨h0, h1⟩, h2⟩
      · refine ⟨l.length, Nat.le_refl _, fun j hj h' => ?_, fun h' => absurd h' (by omega)⟩
        cases e : ltS l[j] s with
        | true => rfl
        | false => exact absurd ⟨h', e⟩ (h j h')
      · refine ⟨k, by omega, fun j hj h' => ?_, fun _ => h1⟩
        cases e : ltS l[j] s with
        | true => rfl
        | false => exact absurd ⟨h', e⟩ (h2 j hj)
    unfold ltS at hbelow hat
    rw [iter_runx (fun j : Nat => (((j : Nat) : Int), ())) 0 ((k : Int), ()) k ?_ ?_ ?_ (by omega)]
    · have new : ∃ l', C.sl (k + 1 + (l.length - k)) (strs (l.take k) ++ [C.v (.string s)] ++ strs (l.drop k)) = encP l' ∧ l' = l.take k ++ [s] ++ l.drop k := by
        refine ⟨_, ?_, rfl⟩
        rw [encP_sl (by simp)]
        have e1 : (l.take k ++ [s] ++ l.drop k).length = k + 1 + (l.length - k) := by simp; omega
        rw [e1]; simp [strs]
      obtain ⟨l', hnew, hl'⟩ := new
      have hmem : ∀ x, x ∈ l' ↔ x = s ∨ x ∈ l := fun x => by
        rw [hl']
        have e : x ∈ l ↔ x ∈ l.take k ∨ x ∈ l.drop k := by rw [← List.mem_append, List.take_append_drop]
        rw [e]; simp only [List.mem_append, List.mem_singleton]
        constructor
        · rintro ((h | h) | h)
          · exact .inr (.inl h)
          · exact .inl h
          · exact .inr (.inr h)
        · rintro (h | h | h)
          · exact .inl (.inr h)
          · exact .inl (.inl h)
          · exact .inr h
      have hin : in6 l' := fun x hx => by
        rcases (hmem x).1 hx with rfl | h
        · exact hs
        · exact h6 x h
      have hlt : ∀ a ∈ l.take k, rk a < rk s := fun a ha' => by
        obtain ⟨j, hj, rfl⟩ := List.mem_iff_getElem.1 ha'
        rw [List.length_take] at hj
        have h1 := hbelow j (by omega) (by omega)
        rw [List.getElem_take]
        have h2 : ltS l[j] s = true := h1
        rw [ltS_eq] at h2
        exact (ltB_rk _ (h6 _ (List.getElem_mem _)) _ hs).1 h2
      have hasc : (∀ h : k < l.length, l[k] ≠ s) → asc6 l' := fun hne => by
        rw [hl']
        have hsp : asc6 (l.take k ++ l.drop k) := by rw [List.take_append_drop]; exact ha
        have h3 := List.pairwise_append.1 hsp
        have hgt : ∀ b ∈ l.drop k, rk s < rk b := fun b hb => by
          obtain ⟨j, hj, rfl⟩ := List.mem_iff_getElem.1 hb
          rw [List.length_drop] at hj
          have hk' : k < l.length := by omega
          have h1 : ltS l[k] s = false := hat hk'
          rw [ltS_eq] at h1
          have m1 := h6 _ (List.getElem_mem hk')
          have h2 : ¬ rk l[k] < rk s := fun e => by rw [(ltB_rk _ m1 _ hs).2 e] at h1; cases h1
          have h4 : rk l[k] ≠ rk s := fun e => hne hk' (rk_inj _ m1 _ hs e)
          rw [List.getElem_drop]
          cases j with
          | zero => simp only [Nat.add_zero]; omega
          | succ j =>
            have := List.pairwise_iff_getElem.1 ha k (k + (j + 1)) hk' (by omega) (by omega)
            omega
        refine List.pairwise_append.2 ⟨List.pairwise_append.2 ⟨h3.1, by simp, fun a ha' b hb => by simp at hb; subst hb; exact hlt a ha'⟩, h3.2.1, fun a ha' b hb => ?_⟩
        rcases List.mem_append.1 ha' with h | h
        · exact h3.2.2 a h b hb
        · simp at h; subst h; exact hgt b hb
      by_cases hk' : k < l.length
      · have hcell : List.drop k (strs l) = C.v (.string l[k]) :: List.drop (k + 1) (strs l) := strs_drop l hk'
        by_cases he : l[k] = s
        · refine ⟨l, ?_, ha, h6, fun x => ⟨.inr, fun h => h.elim (fun e => by rw [e, ← he]; exact List.getElem_mem hk') id⟩⟩
          have hin2 : inR (k : Int) l.length = true := by simp [inR]; omega
          simp (disch := omega) only [obs, rC_c, rA_agg, rT_tup, rP_ptr, rW_own, rS_sb, rF_sb, uncV_cons, uncO_cons, nilV_nil, rO_ob, rN_ob, unc_cons, asI_int, asB_bool, asS_string, asSl_sl, asSl_nl, asFn_fn, asP_cp, nrm_sl, nrm_nl, need_true, ct, cf, bd_eq, natD_zero, natD_succ, natD_one, noYl_v, noYl_sl, noYl_nl, noYl_cp, noYl_fn, Bool.and_true, Bool.true_and, Bool.and_self, beqN_self, Bool.not_true, Bool.not_false, Bool.and_false, Bool.false_and, Bool.or_false, Bool.false_or, Bool.or_true, Bool.true_or, wrap_in, dlt_t, dlt_f, dle_t, dle_f, dgt_t, dgt_f, dge_t, dge_f, ibeq_t, ibeq_f, ibne_t, ibne_f, inR_int, beqN_eq, bleN_le, Int.toNat_natCast, Nat.mul_one, hcell, he, beq_self_eq_true, encP_sl hl]
        · refine ⟨l', ?_, hasc fun _ => he, hin, hmem⟩
          have hne : (l[k].toList == s.toList) = false := by rw [toList_beq, decide_eq_false he]
          rw [← hnew]
          simp (disch := omega) only [obs, rC_c, rA_agg, rT_tup, rP_ptr, rW_own, rS_sb, rF_sb, uncV_cons, uncO_cons, nilV_nil, rO_ob, rN_ob, unc_cons, asI_int, asB_bool, asS_string, asSl_sl, asSl_nl, asFn_fn, asP_cp, nrm_sl, nrm_nl, need_true, ct, cf, bd_eq, natD_zero, natD_succ, natD_one, noYl_v, noYl_sl, noYl_nl, noYl_cp, noYl_fn, Bool.and_true, Bool.true_and, Bool.and_self, beqN_self, Bool.not_true, Bool.not_false, Bool.and_false, Bool.false_and, Bool.or_false, Bool.false_or, Bool.or_true, Bool.true_or, wrap_in, dlt_t, dlt_f, dle_t, dle_f, dgt_t, dgt_f, dge_t, dge_f, ibeq_t, ibeq_f, ibne_t, ibne_f, inR_int, beqN_eq, bleN_le, Int.toNat_natCast, Nat.mul_one, Nat.zero_add, hcell, hne]
          have t1 : (strs (l.take k)).length = k := by rw [strs_length, List.length_take]; omega
          have t2 : (strs (l.drop k)).length = l.length - k := by rw [strs_length, List.length_drop]
          have t3 : List.take (l.length - k) (strs (l.drop k)) = strs (l.drop k) := List.take_of_length_le (by omega)
          have t4 : List.take (k + 1 + (l.length - k)) (strs (l.take k) ++ [C.v (.string s)] ++ strs (l.drop k)) = strs (l.take k) ++ [C.v (.string s)] ++ strs (l.drop k) := List.take_of_length_le (by simp only [List.length_append, t1, t2, List.length_cons, List.length_nil]; omega)
          have hfold : C.v (.string l[k]) :: strs (List.drop (k + 1) l) = strs (List.drop k l) := by rw [← hDk, ← hDk]; exact hcell.symm
          simp (disch := omega) only [obs, rC_c, rA_agg, rT_tup, rP_ptr, rW_own, rS_sb, rF_sb, uncV_cons, uncO_cons, nilV_nil, rO_ob, rN_ob, unc_cons, asI_int, asB_bool, asS_string, asSl_sl, asSl_nl, asFn_fn, asP_cp, nrm_sl, nrm_nl, need_true, ct, cf, bd_eq, natD_zero, natD_succ, natD_one, noYl_v, noYl_sl, noYl_nl, noYl_cp, noYl_fn, Bool.and_true, Bool.true_and, Bool.and_self, beqN_self, Bool.not_true, Bool.not_false, Bool.and_false, Bool.false_and, Bool.or_false, Bool.false_or, Bool.or_true, Bool.true_or, wrap_in, dlt_t, dlt_f, dle_t, dle_f, dgt_t, dgt_f, dge_t, dge_f, ibeq_t, ibeq_f, ibne_t, ibne_f, inR_int, beqN_eq, bleN_le, hTk, hDk, hfold, t1, t2, t3, t4, List.length_append, List.length_cons, List.length_nil, Nat.zero_add]
      · have hkl : k = l.length := by omega
        refine ⟨l', ?_, hasc fun h => absurd h hk', hin, hmem⟩
        rw [← hnew]
        simp (disch := omega) only [obs, rC_c, rA_agg, rT_tup, rP_ptr, rW_own, rS_sb, rF_sb, uncV_cons, uncO_cons, nilV_nil, rO_ob, rN_ob, unc_cons, asI_int, asB_bool, asS_string, asSl_sl, asSl_nl, asFn_fn, asP_cp, nrm_sl, nrm_nl, need_true, ct, cf, bd_eq, natD_zero, natD_succ, natD_one, noYl_v, noYl_sl, noYl_nl, noYl_cp, noYl_fn, Bool.and_true, Bool.true_and, Bool.and_self, beqN_self, Bool.not_true, Bool.not_false, Bool.and_false, Bool.false_and, Bool.or_false, Bool.false_or, Bool.or_true, Bool.true_or, wrap_in, dlt_t, dlt_f, dle_t, dle_f, dgt_t, dgt_f, dge_t, dge_f, ibeq_t, ibeq_f, ibne_t, ibne_f, inR_int, beqN_eq, bleN_le, Int.toNat_natCast, Nat.mul_one, Nat.zero_add]
        have t1 : (strs (l.take k)).length = k := by rw [strs_length, List.length_take]; omega
        have t2 : (strs (l.drop k)).length = l.length - k := by rw [strs_length, List.length_drop]
        have t3 : List.take (l.length - k) (strs (l.drop k)) = strs (l.drop k) := List.take_of_length_le (by omega)
        have t4 : List.take (k + 1 + (l.length - k)) (strs (l.take k) ++ [C.v (.string s)] ++ strs (l.drop k)) = strs (l.take k) ++ [C.v (.string s)] ++ strs (l.drop k) := List.take_of_length_le (by simp only [List.length_append, t1, t2, List.length_cons, List.length_nil]; omega)
        simp (disch := omega) only [obs, rC_c, rA_agg, rT_tup, rP_ptr, rW_own, rS_sb, rF_sb, uncV_cons, uncO_cons, nilV_nil, rO_ob, rN_ob, unc_cons, asI_int, asB_bool, asS_string, asSl_sl, asSl_nl, asFn_fn, asP_cp, nrm_sl, nrm_nl, need_true, ct, cf, bd_eq, natD_zero, natD_succ, natD_one, noYl_v, noYl_sl, noYl_nl, noYl_cp, noYl_fn, Bool.and_true, Bool.true_and, Bool.and_self, beqN_self, Bool.not_true, Bool.not_false, Bool.and_false, Bool.false_and, Bool.or_false, Bool.false_or, Bool.or_true, Bool.true_or, wrap_in, dlt_t, dlt_f, dle_t, dle_f, dgt_t, dgt_f, dge_t, dge_f, ibeq_t, ibeq_f, ibne_t, ibne_f, inR_int, beqN_eq, bleN_le, hTk, hDk, t1, t2, t3, t4, List.length_append, List.length_cons, List.length_nil, Nat.zero_add]
    · rfl
    · intro j hj
      have hj' : j < l.length := by omega
      have hb := hbelow j hj hj'
      simp (disch := omega) only [obs, rC_c, rA_agg, rT_tup, rP_ptr, rW_own, rS_sb, rF_sb, uncV_cons, uncO_cons, nilV_nil, rO_ob, rN_ob, unc_cons, asI_int, asB_bool, asS_string, asSl_sl, asSl_nl, asFn_fn, asP_cp, nrm_sl, nrm_nl, need_true, ct, cf, bd_eq, natD_zero, natD_succ, natD_one, noYl_v, noYl_sl, noYl_nl, noYl_cp, noYl_fn, Bool.and_true, Bool.true_and, Bool.and_self, beqN_self, Bool.not_true, Bool.not_false, Bool.and_false, Bool.false_and, Bool.or_false, Bool.false_or, Bool.or_true, Bool.true_or, wrap_in, dlt_t, dlt_f, dle_t, dle_f, dgt_t, dgt_f, dge_t, dge_f, ibeq_t, ibeq_f, ibne_t, ibne_f, inR_int, beqN_eq, bleN_le, Int.toNat_natCast, Nat.mul_one, strs_drop l hj', hb]
      rfl
    · by_cases hk' : k < l.length
      · have hb := hat hk'
        simp (disch := omega) only [obs, rC_c, rA_agg, rT_tup, rP_ptr, rW_own, rS_sb, rF_sb, uncV_cons, uncO_cons, nilV_nil, rO_ob, rN_ob, unc_cons, asI_int, asB_bool, asS_string, asSl_sl, asSl_nl, asFn_fn, asP_cp, nrm_sl, nrm_nl, need_true, ct, cf, bd_eq, natD_zero, natD_succ, natD_one, noYl_v, noYl_sl, noYl_nl, noYl_cp, noYl_fn, Bool.and_true, Bool.true_and, Bool.and_self, beqN_self, Bool.not_true, Bool.not_false, Bool.and_false, Bool.false_and, Bool.or_false, Bool.false_or, Bool.or_true, Bool.true_or, wrap_in, dlt_t, dlt_f, dle_t, dle_f, dgt_t, dgt_f, dge_t, dge_f, ibeq_t, ibeq_f, ibne_t, ibne_f, inR_int, beqN_eq, bleN_le, Int.toNat_natCast, Nat.mul_one, strs_drop l hk', hb]
      · simp (disch := omega) only [obs, rC_c, rA_agg, rT_tup, rP_ptr, rW_own, rS_sb, rF_sb, uncV_cons, uncO_cons, nilV_nil, rO_ob, rN_ob, unc_cons, asI_int, asB_bool, asS_string, asSl_sl, asSl_nl, asFn_fn, asP_cp, nrm_sl, nrm_nl, need_true, ct, cf, bd_eq, natD_zero, natD_succ, natD_one, noYl_v, noYl_sl, noYl_nl, noYl_cp, noYl_fn, Bool.and_true, Bool.true_and, Bool.and_self, beqN_self, Bool.not_true, Bool.not_false, Bool.and_false, Bool.false_and, Bool.or_false, Bool.false_or, Bool.or_true, Bool.true_or, wrap_in, dlt_t, dlt_f, dle_t, dle_f, dgt_t, dgt_f, dge_t, dge_f, ibeq_t, ibeq_f, ibne_t, ibne_f, inR_int, beqN_eq, bleN_le]
end
end Go.Proofs.Ytofalpngdbinbaa
/- The chapter's Validate finds histories of the six names valid. -/
namespace Go.Proofs.Ytofalpngdbinbaa
open Go Go.PM

section
variable (fu d : Nat) (hf : 18446744073709551616 ≤ fu)
include hf
set_option maxHeartbeats 2000000 in
theorem sp_refValidate {h1 h2 : C} {cy : List (List Cnt)} {nm : List ByteArray} (e1 : nrm h1 = .sl cy.length (cycs cy)) (e2 : nrm h2 = .sl nm.length (strs nm)) (h : hist6 cy nm) :
    cl fu (d + 2) fn_synopticref19_Validate [V.agg [h1, h2]] [] = some ⟨I 0, [], none⟩ := by
  obtain ⟨k1, k2, k3, k4⟩ := h
  have hnl := k4.length
  have hasc := k4.asc k3
  rw [eq_synopticref19_Validate, asSl_nrm e1]
  rw [dgt_f (show ((cy.length : Nat) : Int) ≤ 12 by omega)]
  simp only [cf]
  rw [asSl_nrm e2]
  rw [asSl_nrm e1]
  rw [dgt_f (show ((nm.length : Nat) : Int) ≤ 150 by omega)]
  rw [iter_runx (fun j : Nat => (false, ((j : Nat) : Int), ())) 0 (false, (cy.length : Int), ()) cy.length ?_ ?_ ?_ (by omega)]
  · simp only [obs, cf]
    rw [asSl_nrm e1]
    rw [iter_runx (fun j : Nat => (true, true, true, ((j : Nat) : Int), ())) 0 (true, true, true, (cy.length : Int), ()) cy.length ?_ ?_ ?_ (by omega)]
    · simp only [obs]
      rw [asSl_nrm e2]
      rw [iter_runx (fun j : Nat => (true, true, ((j : Nat) : Int), ())) 0 (true, true, (nm.length : Int), ()) nm.length ?_ ?_ ?_ (by omega)]
      · rfl
      · rfl
      · intro j hj
        have hN := sp_refName fu d hf (refOk6 nm[j] (k3 _ (List.getElem_mem hj)))
        simp (disch := omega) only [obs, rC_c, rA_agg, rT_tup, rP_ptr, rW_own, rS_sb, rF_sb, uncV_cons, uncO_cons, nilV_nil, rO_ob, rN_ob, unc_cons, asI_int, asB_bool, asS_string, asSl_sl, asSl_nl, asFn_fn, asP_cp, nrm_sl, nrm_nl, need_true, ct, cf, bd_eq, natD_zero, natD_succ, natD_one, noYl_v, noYl_sl, noYl_nl, noYl_cp, noYl_fn, Bool.and_true, Bool.true_and, Bool.and_self, beqN_self, Bool.not_true, Bool.not_false, Bool.and_false, Bool.false_and, Bool.or_false, Bool.false_or, Bool.or_true, Bool.true_or, wrap_in, dlt_t, dlt_f, dle_t, dle_f, dgt_t, dgt_f, dge_t, dge_f, ibeq_t, ibeq_f, ibne_t, ibne_f, inR_int, beqN_eq, bleN_le, asSl_nrm e2, Int.toNat_natCast, Nat.mul_one, strs_drop nm hj, hN]
        by_cases h0 : j = 0
        · subst h0; rfl
        · have hj1 : j - 1 < nm.length := by omega
          have hlt := hasc (j - 1) nm[j - 1] nm[j] (by simp [hj1]) (by rw [show j - 1 + 1 = j by omega]; simp [hj])
          unfold ltS at hlt
          have e : (j : Int) - 1 = ((j - 1 : Nat) : Int) := by omega
          simp (disch := omega) only [obs, rC_c, rA_agg, rT_tup, rP_ptr, rW_own, rS_sb, rF_sb, uncV_cons, uncO_cons, nilV_nil, rO_ob, rN_ob, unc_cons, asI_int, asB_bool, asS_string, asSl_sl, asSl_nl, asFn_fn, asP_cp, nrm_sl, nrm_nl, need_true, ct, cf, bd_eq, natD_zero, natD_succ, natD_one, noYl_v, noYl_sl, noYl_nl, noYl_cp, noYl_fn, Bool.and_true, Bool.true_and, Bool.and_self, beqN_self, Bool.not_true, Bool.not_false, Bool.and_false, Bool.false_and, Bool.or_false, Bool.false_or, Bool.or_true, Bool.true_or, wrap_in, dlt_t, dlt_f, dle_t, dle_f, dgt_t, dgt_f, dge_t, dge_f, ibeq_t, ibeq_f, ibne_t, ibne_f, inR_int, beqN_eq, bleN_le, e, Int.toNat_natCast, strs_drop nm hj1, hlt]
          rfl
      · simp (disch := omega) only [obs, rC_c, rA_agg, rT_tup, rP_ptr, rW_own, rS_sb, rF_sb, uncV_cons, uncO_cons, nilV_nil, rO_ob, rN_ob, unc_cons, asI_int, asB_bool, asS_string, asSl_sl, asSl_nl, asFn_fn, asP_cp, nrm_sl, nrm_nl, need_true, ct, cf, bd_eq, natD_zero, natD_succ, natD_one, noYl_v, noYl_sl, noYl_nl, noYl_cp, noYl_fn, Bool.and_true, Bool.true_and, Bool.and_self, beqN_self, Bool.not_true, Bool.not_false, Bool.and_false, Bool.false_and, Bool.or_false, Bool.false_or, Bool.or_true, Bool.true_or, wrap_in, dlt_t, dlt_f, dle_t, dle_f, dgt_t, dgt_f, dge_t, dge_f, ibeq_t, ibeq_f, ibne_t, ibne_f, inR_int, beqN_eq, bleN_le]
    · rfl
    · intro j hj
      have hc := k2 cy[j] (List.getElem_mem hj)
      have hcl := hc.2.length
      have hca := hc.2.asc hc.in6
      rw [List.length_map] at hcl
      rw [dlt_t (show ((j : Nat) : Int) < ((cy.length : Nat) : Int) by omega)]
      simp only [ct]
      rw [asSl_nrm e1]
      rw [inR_nat hj]
      simp only [need_true, Int.toNat_natCast, Nat.mul_one]
      rw [cycs_drop cy hj]
      simp only [unc_cons, cyC, asSl_sl]
      generalize cy[j] = l at *
      rw [iter_runx (fun i : Nat => (true, true, true, ((i : Nat) : Int), ())) 0 (true, true, true, (l.length : Int), ()) l.length ?_ ?_ ?_ (by omega)]
      · simp (disch := omega) only [obs, rC_c, rA_agg, rT_tup, rP_ptr, rW_own, rS_sb, rF_sb, uncV_cons, uncO_cons, nilV_nil, rO_ob, rN_ob, unc_cons, asI_int, asB_bool, asS_string, asSl_sl, asSl_nl, asFn_fn, asP_cp, nrm_sl, nrm_nl, need_true, ct, cf, bd_eq, natD_zero, natD_succ, natD_one, noYl_v, noYl_sl, noYl_nl, noYl_cp, noYl_fn, Bool.and_true, Bool.true_and, Bool.and_self, beqN_self, Bool.not_true, Bool.not_false, Bool.and_false, Bool.false_and, Bool.or_false, Bool.false_or, Bool.or_true, Bool.true_or, wrap_in, dlt_t, dlt_f, dle_t, dle_f, dgt_t, dgt_f, dge_t, dge_f, ibeq_t, ibeq_f, ibne_t, ibne_f, inR_int, beqN_eq, bleN_le]
        rfl
      · rfl
      · intro i hi
        have hci := hc.1 l[i] (List.getElem_mem hi)
        obtain ⟨m1, ⟨m2, m3⟩, m4, m5⟩ := hci
        have hN := sp_refName fu d hf (refOk6 l[i].nm m1)
        rw [dlt_t (show ((i : Nat) : Int) < ((l.length : Nat) : Int) by omega)]
        simp only [ct]
        rw [inR_nat hi]
        simp only [need_true, Int.toNat_natCast]
        rw [fl_at cc_length hi]
        simp only [cc, List.cons_append, unc_cons, asS_string, asI_int]
        rw [hN]
        simp only [obs, rC_c, asB_bool]
        rw [dge_t m2]
        simp only [ct]
        rw [dle_t m3]
        simp only [ct]
        rw [dge_t m4]
        simp only [ct]
        rw [dle_t m5]
        by_cases h0 : i = 0
        · subst h0; rfl
        · have hi1 : i - 1 < l.length := by omega
          have hlt := hca (i - 1) l[i - 1].nm l[i].nm (by simp [hi1]) (by rw [show i - 1 + 1 = i by omega]; simp [hi])
          unfold ltS at hlt
          have e : (i : Int) - 1 = ((i - 1 : Nat) : Int) := by omega
          simp (disch := omega) only [obs, rC_c, rA_agg, rT_tup, rP_ptr, rW_own, rS_sb, rF_sb, uncV_cons, uncO_cons, nilV_nil, rO_ob, rN_ob, unc_cons, asI_int, asB_bool, asS_string, asSl_sl, asSl_nl, asFn_fn, asP_cp, nrm_sl, nrm_nl, need_true, ct, cf, bd_eq, natD_zero, natD_succ, natD_one, noYl_v, noYl_sl, noYl_nl, noYl_cp, noYl_fn, Bool.and_true, Bool.true_and, Bool.and_self, beqN_self, Bool.not_true, Bool.not_false, Bool.and_false, Bool.false_and, Bool.or_false, Bool.false_or, Bool.or_true, Bool.true_or, wrap_in, dlt_t, dlt_f, dle_t, dle_f, dgt_t, dgt_f, dge_t, dge_f, ibeq_t, ibeq_f, ibne_t, ibne_f, inR_int, beqN_eq, bleN_le, e, Int.toNat_natCast, fl_at cc_length hi1, cc, List.cons_append, hlt]
          rfl
      · rw [dlt_f (show ((l.length : Nat) : Int) ≤ ((l.length : Nat) : Int) by omega)]
        rfl
    · rw [dlt_f (show ((cy.length : Nat) : Int) ≤ ((cy.length : Nat) : Int) by omega)]
      rfl
  · rfl
  · intro j hj
    have hc := k2 cy[j] (List.getElem_mem hj)
    have hcl := hc.2.length
    rw [List.length_map] at hcl
    simp (disch := omega) only [obs, rC_c, rA_agg, rT_tup, rP_ptr, rW_own, rS_sb, rF_sb, uncV_cons, uncO_cons, nilV_nil, rO_ob, rN_ob, unc_cons, asI_int, asB_bool, asS_string, asSl_sl, asSl_nl, asFn_fn, asP_cp, nrm_sl, nrm_nl, need_true, ct, cf, bd_eq, natD_zero, natD_succ, natD_one, noYl_v, noYl_sl, noYl_nl, noYl_cp, noYl_fn, Bool.and_true, Bool.true_and, Bool.and_self, beqN_self, Bool.not_true, Bool.not_false, Bool.and_false, Bool.false_and, Bool.or_false, Bool.false_or, Bool.or_true, Bool.true_or, wrap_in, dlt_t, dlt_f, dle_t, dle_f, dgt_t, dgt_f, dge_t, dge_f, ibeq_t, ibeq_f, ibne_t, ibne_f, inR_int, beqN_eq, bleN_le, asSl_nrm e1, Int.toNat_natCast, Nat.mul_one, cycs_drop cy hj, cyC]
    rfl
  · simp (disch := omega) only [obs, rC_c, rA_agg, rT_tup, rP_ptr, rW_own, rS_sb, rF_sb, uncV_cons, uncO_cons, nilV_nil, rO_ob, rN_ob, unc_cons, asI_int, asB_bool, asS_string, asSl_sl, asSl_nl, asFn_fn, asP_cp, nrm_sl, nrm_nl, need_true, ct, cf, bd_eq, natD_zero, natD_succ, natD_one, noYl_v, noYl_sl, noYl_nl, noYl_cp, noYl_fn, Bool.and_true, Bool.true_and, Bool.and_self, beqN_self, Bool.not_true, Bool.not_false, Bool.and_false, Bool.false_and, Bool.or_false, Bool.false_or, Bool.or_true, Bool.true_or, wrap_in, dlt_t, dlt_f, dle_t, dle_f, dgt_t, dgt_f, dge_t, dge_f, ibeq_t, ibeq_f, ibne_t, ibne_f, inR_int, beqN_eq, bleN_le]
end
end Go.Proofs.Ytofalpngdbinbaa
/- The chapter's Push keeps histories of the six names. -/
namespace Go.Proofs.Ytofalpngdbinbaa
open Go Go.PM

def totC (s : ByteArray) (q : Int × Int) (c : Cnt) : Int × Int := bif decide (c.nm = s) then (IntKind.i64.wrap (q.1 + c.t), IntKind.i64.wrap (q.2 + c.r)) else q
def totL (s : ByteArray) (q : Int × Int) (l : List Cnt) : Int × Int := l.foldl (totC s) q
def pS (nm : List ByteArray) (CY : List (List Cnt)) (lv en : Int) (s : ByteArray) : Bool :=
  if hasS nm s then ((CY.foldl (totL s) (0, 0)).1 == 0) || decide (IntKind.i64.wrap (lv * (CY.foldl (totL s) (0, 0)).1) ≤ IntKind.i64.wrap (100 * (CY.foldl (totL s) (0, 0)).2)) else decide (5 ≤ (CY.foldl (totL s) (0, 0)).1) && decide (IntKind.i64.wrap (en * (CY.foldl (totL s) (0, 0)).1) ≤ IntKind.i64.wrap (100 * (CY.foldl (totL s) (0, 0)).2))

section
variable (fu d : Nat) (hf : 18446744073709551616 ≤ fu)
include hf
set_option maxHeartbeats 4000000 in
theorem sp_refPush {h1 h2 : C} {cy : List (List Cnt)} {nm : List ByteArray} (e1 : nrm h1 = .sl cy.length (cycs cy)) (e2 : nrm h2 = .sl nm.length (strs nm)) (h : hist6 cy nm)
    {l : List Cnt} (hl : cyc6 l) {a2 : List C} {lv en : Int} {r40 r39 : List C} (hk40 : List.drop 40 a2 = C.v (.int .i64 lv) :: r40) (hk39 : List.drop 39 a2 = C.v (.int .i64 en) :: r39) (hlv : 1 ≤ lv ∧ lv ≤ en ∧ en ≤ 100) :
    ∃ nm', in6 nm' ∧ asc6 nm' ∧ cl fu (d + 4) fn_synopticref19_Push [V.agg [h1, h2], V.c (cyC l), V.agg a2] [] =
      some ⟨V.tup [V.agg [C.sl (kept cy l).length (cycs (kept cy l)), C.sl nm'.length (strs nm')], I 0], [], none⟩ := by
  have hV1 := sp_refValidate fu (d + 1) hf e1 e2 h
  have hV2 := sp_refValidate fu (d + 1) hf (h1 := C.sl 1 [C.sl l.length (fl cc l)]) (h2 := C.nl) (cy := [l]) (nm := []) rfl rfl ⟨by simp, by simpa using hl, by simp [in6], by simp [asc6]⟩
  have hP : ∀ x : List ByteArray × ByteArray, ∃ l', asc6 x.1 → in6 x.1 → x.2 ∈ names6 → cl fu (d + 3) fn_synopticref19_put [V.c (encP x.1), V.c (.v (.string x.2))] [] = some ⟨V.c (encP l'), [], none⟩ ∧ asc6 l' ∧ in6 l' := by
    intro x
    by_cases hx : asc6 x.1 ∧ in6 x.1 ∧ x.2 ∈ names6
    · obtain ⟨l', q1, q2, q3, _⟩ := sp_put fu (d + 2) hf hx.1 hx.2.1 hx.2.2
      exact ⟨l', fun _ _ _ => ⟨q1, q2, q3⟩⟩
    · exact ⟨[], fun a b c => absurd ⟨a, b, c⟩ hx⟩
  obtain ⟨F0, hF0⟩ := Classical.axiomOfChoice hP
  obtain ⟨F, hFe⟩ : ∃ F : List ByteArray → ByteArray → List ByteArray, ∀ a b, F a b = F0 (a, b) := ⟨fun a b => F0 (a, b), fun _ _ => rfl⟩
  have hF : ∀ x : List ByteArray × ByteArray, asc6 x.1 → in6 x.1 → x.2 ∈ names6 → cl fu (d + 3) fn_synopticref19_put [V.c (encP x.1), V.c (.v (.string x.2))] [] = some ⟨V.c (encP (F x.1 x.2)), [], none⟩ ∧ asc6 (F x.1 x.2) ∧ in6 (F x.1 x.2) := fun x a b c => by rw [hFe]; exact hF0 x a b c
  clear hFe hF0 hP
  have foldF : ∀ (ns : List ByteArray) (L : List ByteArray), in6 ns → (asc6 L ∧ in6 L) → asc6 (ns.foldl F L) ∧ in6 (ns.foldl F L) := by
    intro ns
    induction ns with
    | nil => intro L _ h; exact h
    | cons a ns ih =>
      intro L hn hL
      exact ih _ (fun s hs => hn s (by simp [hs])) (hF (L, a) hL.1 hL.2 (hn a (by simp))).2
  have foldFF : ∀ (CY : List (List Cnt)) (L : List ByteArray), (∀ x ∈ CY, cyc6 x) → (asc6 L ∧ in6 L) → asc6 (CY.foldl (fun L x => (x.map Cnt.nm).foldl F L) L) ∧ in6 (CY.foldl (fun L x => (x.map Cnt.nm).foldl F L) L) := by
    intro CY
    induction CY with
    | nil => intro L _ h; exact h
    | cons a CY ih =>
      intro L hn hL
      exact ih _ (fun s hs => hn s (by simp [hs])) (foldF _ _ (hn a (by simp)).in6 hL)
  obtain ⟨h1', hc', hn', ha'⟩ := h
  have hnl := ha'.length
  have hll := hl.2.length
  rw [List.length_map] at hll
  have hC := cycs_length cy
  have hfl3 := fl_length cc_length l
  have tl : List.take (l.length * 3) (fl cc l) = fl cc l := List.take_of_length_le (by omega)
  have hcc : cycs cy ++ [C.sl l.length (fl cc l)] = cycs (cy ++ [l]) := by simp [cycs, cyC]
  have tC0 : List.take (cy.length + 1) (cycs (cy ++ [l])) = cycs (cy ++ [l]) := List.take_of_length_le (by rw [cycs_length]; simp)
  unfold cyC
  rw [eq_synopticref19_Push, hV1]
  simp only [obs, rC_c, asI_int]
  rw [hV2]
  simp only [obs, rC_c, asI_int]
  rw [ibne_f (show (0 : Int) = 0 from rfl)]
  simp only [cf]
  rw [hk40]
  simp only [unc_cons, asI_int]
  rw [dlt_f (show (1 : Int) ≤ lv by omega)]
  simp only [cf]
  rw [hk39]
  simp only [unc_cons, asI_int]
  rw [dgt_f (show en ≤ 100 by omega)]
  simp only [cf]
  rw [dgt_f (show lv ≤ en by omega)]
  simp only [cf]
  rw [asSl_nrm e1]
  simp only [Nat.zero_add, Nat.mul_one, hC, hfl3]
  rw [tl, hcc]
  rw [beqN_self, beqN_self, cycs_length, List.length_append, tC0]
  simp (maxSteps := 4000000) (disch := omega) only [need_true, bleN_le, Bool.and_true, Bool.true_and, Bool.and_self, List.length_cons, List.length_nil, Nat.zero_add, Nat.add_sub_cancel]
  by_cases h12 : 12 < cy.length + 1
  · have hkp : kept cy l = (cy ++ [l]).drop 1 := by unfold kept; rw [if_pos h12]
    have hkn : ((cy ++ [l]).drop 1).length = cy.length := by simp
    have tC : List.take cy.length (List.drop 1 (cycs (cy ++ [l]))) = cycs ((cy ++ [l]).drop 1) := by
      rw [show List.drop 1 (cycs (cy ++ [l])) = cycs ((cy ++ [l]).drop 1) by simp [cycs]]
      exact List.take_of_length_le (by rw [cycs_length]; omega)
    rw [dgt_t (show (12 : Int) < ((cy.length + 1 : Nat) : Int) by omega)]
    simp (disch := omega) only [ct, need_true, dle_t, tC]
    rw [hkp]
    rw [show C.sl cy.length (cycs ((cy ++ [l]).drop 1)) = C.sl ((cy ++ [l]).drop 1).length (cycs ((cy ++ [l]).drop 1)) by rw [hkn]]
    have hCl : ((cy ++ [l]).drop 1).length ≤ 12 := hkp ▸ kept_length h1'
    have hCc : ∀ x ∈ ((cy ++ [l]).drop 1), cyc6 x := hkp ▸ kept_all (P := cyc6) hc' hl
    generalize hCY : ((cy ++ [l]).drop 1) = CY at *
    -- the names of the list
    rw [asSl_nrm e2]
    rw [iter_runx (fun j : Nat => (encP ((nm.take j).foldl F []), ((j : Nat) : Int), (C.nl, C.nl, ()), (C.sl CY.length (cycs CY), ([] : List C), ()), ())) 0 (encP (nm.foldl F []), (nm.length : Int), (C.nl, C.nl, ()), (C.sl CY.length (cycs CY), ([] : List C), ()), ()) nm.length ?_ ?_ ?_ (by omega)]
    · have hA := foldF nm [] hn' ⟨by simp [asc6], by simp [in6]⟩
      generalize nm.foldl F [] = A at hA ⊢
      simp (disch := omega) only [obs, rC_c, rA_agg, rT_tup, rP_ptr, rW_own, rS_sb, rF_sb, uncV_cons, uncO_cons, nilV_nil, rO_ob, rN_ob, unc_cons, asI_int, asB_bool, asS_string, asSl_sl, asSl_nl, asFn_fn, asP_cp, nrm_sl, nrm_nl, need_true, ct, cf, bd_eq, natD_zero, natD_succ, natD_one, noYl_v, noYl_sl, noYl_nl, noYl_cp, noYl_fn, Bool.and_true, Bool.true_and, Bool.and_self, beqN_self, Bool.not_true, Bool.not_false, Bool.and_false, Bool.false_and, Bool.or_false, Bool.false_or, Bool.or_true, Bool.true_or, wrap_in, dlt_t, dlt_f, dle_t, dle_f, dgt_t, dgt_f, dge_t, dge_f, ibeq_t, ibeq_f, ibne_t, ibne_f, inR_int, beqN_eq, bleN_le, List.length_nil, Nat.div_one, Nat.mul_one, Nat.zero_div]
      rw [iter_runx (fun j : Nat => (encP ((CY.take j).foldl (fun L x => (x.map Cnt.nm).foldl F L) A), ((j : Nat) : Int), (C.nl, C.nl, ()), (C.sl CY.length (cycs CY), ([] : List C), ()), ())) 0 (encP (CY.foldl (fun L x => (x.map Cnt.nm).foldl F L) A), (CY.length : Int), (C.nl, C.nl, ()), (C.sl CY.length (cycs CY), ([] : List C), ()), ()) CY.length ?_ ?_ ?_ (by omega)]
      · have hB := foldFF CY A hCc hA
        generalize CY.foldl (fun L x => (x.map Cnt.nm).foldl F L) A = al at hB ⊢
        obtain ⟨hB1, hB2⟩ := hB
        have hal := hB1.length
        refine ⟨al.filter (pS nm CY lv en), hB2.filter _, hB1.filter _, ?_⟩
        have hfl : (al.filter (pS nm CY lv en)).length ≤ 6 := (hB1.filter (pS nm CY lv en)).length
        simp (disch := omega) only [obs, rC_c, rA_agg, rT_tup, rP_ptr, rW_own, rS_sb, rF_sb, uncV_cons, uncO_cons, nilV_nil, rO_ob, rN_ob, unc_cons, asI_int, asB_bool, asS_string, asSl_sl, asSl_nl, asFn_fn, asP_cp, nrm_sl, nrm_nl, need_true, ct, cf, bd_eq, natD_zero, natD_succ, natD_one, noYl_v, noYl_sl, noYl_nl, noYl_cp, noYl_fn, Bool.and_true, Bool.true_and, Bool.and_self, beqN_self, Bool.not_true, Bool.not_false, Bool.and_false, Bool.false_and, Bool.or_false, Bool.false_or, Bool.or_true, Bool.true_or, wrap_in, dlt_t, dlt_f, dle_t, dle_f, dgt_t, dgt_f, dge_t, dge_f, ibeq_t, ibeq_f, ibne_t, ibne_f, inR_int, beqN_eq, bleN_le, asSl_encP, List.length_nil, Nat.div_one, Nat.mul_one, Nat.zero_div]
        rw [iter_runx (fun j : Nat => (((j : Nat) : Int), (C.nl, C.nl, ()), (C.sl CY.length (cycs CY), strs ((al.take j).filter (pS nm CY lv en)), ()), ())) 0 ((al.length : Int), (C.nl, C.nl, ()), (C.sl CY.length (cycs CY), strs (al.filter (pS nm CY lv en)), ()), ()) al.length ?_ ?_ ?_ (by omega)]
        · have t1 : List.take (al.filter (pS nm CY lv en)).length (strs (al.filter (pS nm CY lv en))) = strs (al.filter (pS nm CY lv en)) := List.take_of_length_le (by rw [strs_length]; omega)
          simp (disch := omega) only [obs, rC_c, rA_agg, rT_tup, rP_ptr, rW_own, rS_sb, rF_sb, uncV_cons, uncO_cons, nilV_nil, rO_ob, rN_ob, unc_cons, asI_int, asB_bool, asS_string, asSl_sl, asSl_nl, asFn_fn, asP_cp, nrm_sl, nrm_nl, need_true, ct, cf, bd_eq, natD_zero, natD_succ, natD_one, noYl_v, noYl_sl, noYl_nl, noYl_cp, noYl_fn, Bool.and_true, Bool.true_and, Bool.and_self, beqN_self, Bool.not_true, Bool.not_false, Bool.and_false, Bool.false_and, Bool.or_false, Bool.false_or, Bool.or_true, Bool.true_or, wrap_in, dlt_t, dlt_f, dle_t, dle_f, dgt_t, dgt_f, dge_t, dge_f, ibeq_t, ibeq_f, ibne_t, ibne_f, inR_int, beqN_eq, bleN_le, strs_length, Nat.div_one, Nat.mul_one, Nat.zero_add, t1]
        · rfl
        · intro j hj
          have hlen : ((al.take j).filter (pS nm CY lv en)).length ≤ 6 := Nat.le_trans (List.length_filter_le _ _) (by rw [List.length_take]; omega)
          have hin := sp_in fu (d + 2) hf nm al[j] (by omega)
          rw [filter_succ _ al hj]
          generalize (al.take j).filter (pS nm CY lv en) = G at hlen ⊢
          simp (disch := omega) only [obs, rC_c, rA_agg, rT_tup, rP_ptr, rW_own, rS_sb, rF_sb, uncV_cons, uncO_cons, nilV_nil, rO_ob, rN_ob, unc_cons, asI_int, asB_bool, asS_string, asSl_sl, asSl_nl, asFn_fn, asP_cp, nrm_sl, nrm_nl, need_true, ct, cf, bd_eq, natD_zero, natD_succ, natD_one, noYl_v, noYl_sl, noYl_nl, noYl_cp, noYl_fn, Bool.and_true, Bool.true_and, Bool.and_self, beqN_self, Bool.not_true, Bool.not_false, Bool.and_false, Bool.false_and, Bool.or_false, Bool.false_or, Bool.or_true, Bool.true_or, wrap_in, dlt_t, dlt_f, dle_t, dle_f, dgt_t, dgt_f, dge_t, dge_f, ibeq_t, ibeq_f, ibne_t, ibne_f, inR_int, beqN_eq, bleN_le, asSl_encP, Int.toNat_natCast, Nat.mul_one, Nat.div_one, strs_length, strs_drop al hj]
          generalize al[j] = s at *
          rw [iter_runx (fun i : Nat => (((CY.take i).foldl (totL s) (0, 0)).1, ((CY.take i).foldl (totL s) (0, 0)).2, ((i : Nat) : Int), (C.nl, C.nl, ()), (C.sl CY.length (cycs CY), strs G, ()), ())) 0 ((CY.foldl (totL s) (0, 0)).1, (CY.foldl (totL s) (0, 0)).2, (CY.length : Int), (C.nl, C.nl, ()), (C.sl CY.length (cycs CY), strs G, ()), ()) CY.length ?_ ?_ ?_ (by omega)]
          · have hps : pS nm CY lv en s = if hasS nm s then ((CY.foldl (totL s) (0, 0)).1 == 0) || decide (IntKind.i64.wrap (lv * (CY.foldl (totL s) (0, 0)).1) ≤ IntKind.i64.wrap (100 * (CY.foldl (totL s) (0, 0)).2)) else decide (5 ≤ (CY.foldl (totL s) (0, 0)).1) && decide (IntKind.i64.wrap (en * (CY.foldl (totL s) (0, 0)).1) ≤ IntKind.i64.wrap (100 * (CY.foldl (totL s) (0, 0)).2)) := rfl
            rw [hps]
            generalize CY.foldl (totL s) (0, 0) = q
            obtain ⟨T, R⟩ := q
            dsimp only
            simp (disch := omega) only [obs, rC_c, rA_agg, rT_tup, rP_ptr, rW_own, rS_sb, rF_sb, uncV_cons, uncO_cons, nilV_nil, rO_ob, rN_ob, unc_cons, asI_int, asB_bool, asS_string, asSl_sl, asSl_nl, asFn_fn, asP_cp, nrm_sl, nrm_nl, need_true, ct, cf, bd_eq, natD_zero, natD_succ, natD_one, noYl_v, noYl_sl, noYl_nl, noYl_cp, noYl_fn, Bool.and_true, Bool.true_and, Bool.and_self, beqN_self, Bool.not_true, Bool.not_false, Bool.and_false, Bool.false_and, Bool.or_false, Bool.false_or, Bool.or_true, Bool.true_or, wrap_in, dlt_t, dlt_f, dle_t, dle_f, dgt_t, dgt_f, dge_t, dge_f, ibeq_t, ibeq_f, ibne_t, ibne_f, inR_int, beqN_eq, bleN_le, e2, hin, ge_iff_le]
            generalize IntKind.i64.wrap (100 * R) = r100
            cases hasS nm s with
            | true =>
              cases hT : T == 0 with
              | true =>
                simp (disch := omega) only [obs, rC_c, rA_agg, rT_tup, rP_ptr, rW_own, rS_sb, rF_sb, uncV_cons, uncO_cons, nilV_nil, rO_ob, rN_ob, unc_cons, asI_int, asB_bool, asS_string, asSl_sl, asSl_nl, asFn_fn, asP_cp, nrm_sl, nrm_nl, need_true, ct, cf, bd_eq, natD_zero, natD_succ, natD_one, noYl_v, noYl_sl, noYl_nl, noYl_cp, noYl_fn, Bool.and_true, Bool.true_and, Bool.and_self, beqN_self, Bool.not_true, Bool.not_false, Bool.and_false, Bool.false_and, Bool.or_false, Bool.false_or, Bool.or_true, Bool.true_or, wrap_in, dlt_t, dlt_f, dle_t, dle_f, dgt_t, dgt_f, dge_t, dge_f, ibeq_t, ibeq_f, ibne_t, ibne_f, inR_int, beqN_eq, bleN_le, hT, strs_length, Nat.div_one, Nat.mul_one, List.length_append, List.length_cons, List.length_nil, Nat.zero_add, strs_snoc, if_true]
                rfl
              | false =>
                simp (disch := omega) only [obs, rC_c, rA_agg, rT_tup, rP_ptr, rW_own, rS_sb, rF_sb, uncV_cons, uncO_cons, nilV_nil, rO_ob, rN_ob, unc_cons, asI_int, asB_bool, asS_string, asSl_sl, asSl_nl, asFn_fn, asP_cp, nrm_sl, nrm_nl, need_true, ct, cf, bd_eq, natD_zero, natD_succ, natD_one, noYl_v, noYl_sl, noYl_nl, noYl_cp, noYl_fn, Bool.and_true, Bool.true_and, Bool.and_self, beqN_self, Bool.not_true, Bool.not_false, Bool.and_false, Bool.false_and, Bool.or_false, Bool.false_or, Bool.or_true, Bool.true_or, wrap_in, dlt_t, dlt_f, dle_t, dle_f, dgt_t, dgt_f, dge_t, dge_f, ibeq_t, ibeq_f, ibne_t, ibne_f, inR_int, beqN_eq, bleN_le, hT, hk40, ge_iff_le, if_true]
                generalize IntKind.i64.wrap (lv * T) = lt
                cases hR : decide (lt ≤ r100) with
                | true =>
                  simp (disch := omega) only [obs, rC_c, rA_agg, rT_tup, rP_ptr, rW_own, rS_sb, rF_sb, uncV_cons, uncO_cons, nilV_nil, rO_ob, rN_ob, unc_cons, asI_int, asB_bool, asS_string, asSl_sl, asSl_nl, asFn_fn, asP_cp, nrm_sl, nrm_nl, need_true, ct, cf, bd_eq, natD_zero, natD_succ, natD_one, noYl_v, noYl_sl, noYl_nl, noYl_cp, noYl_fn, Bool.and_true, Bool.true_and, Bool.and_self, beqN_self, Bool.not_true, Bool.not_false, Bool.and_false, Bool.false_and, Bool.or_false, Bool.false_or, Bool.or_true, Bool.true_or, wrap_in, dlt_t, dlt_f, dle_t, dle_f, dgt_t, dgt_f, dge_t, dge_f, ibeq_t, ibeq_f, ibne_t, ibne_f, inR_int, beqN_eq, bleN_le, hR, strs_length, Nat.div_one, Nat.mul_one, List.length_append, List.length_cons, List.length_nil, Nat.zero_add, strs_snoc]
                  rfl
                | false =>
                  simp (disch := omega) only [obs, rC_c, rA_agg, rT_tup, rP_ptr, rW_own, rS_sb, rF_sb, uncV_cons, uncO_cons, nilV_nil, rO_ob, rN_ob, unc_cons, asI_int, asB_bool, asS_string, asSl_sl, asSl_nl, asFn_fn, asP_cp, nrm_sl, nrm_nl, need_true, ct, cf, bd_eq, natD_zero, natD_succ, natD_one, noYl_v, noYl_sl, noYl_nl, noYl_cp, noYl_fn, Bool.and_true, Bool.true_and, Bool.and_self, beqN_self, Bool.not_true, Bool.not_false, Bool.and_false, Bool.false_and, Bool.or_false, Bool.false_or, Bool.or_true, Bool.true_or, wrap_in, dlt_t, dlt_f, dle_t, dle_f, dgt_t, dgt_f, dge_t, dge_f, ibeq_t, ibeq_f, ibne_t, ibne_f, inR_int, beqN_eq, bleN_le, hR, hin, e2, strs_length, Nat.div_one, Nat.mul_one]
                  rfl
            | false =>
              simp (disch := omega) only [obs, rC_c, rA_agg, rT_tup, rP_ptr, rW_own, rS_sb, rF_sb, uncV_cons, uncO_cons, nilV_nil, rO_ob, rN_ob, unc_cons, asI_int, asB_bool, asS_string, asSl_sl, asSl_nl, asFn_fn, asP_cp, nrm_sl, nrm_nl, need_true, ct, cf, bd_eq, natD_zero, natD_succ, natD_one, noYl_v, noYl_sl, noYl_nl, noYl_cp, noYl_fn, Bool.and_true, Bool.true_and, Bool.and_self, beqN_self, Bool.not_true, Bool.not_false, Bool.and_false, Bool.false_and, Bool.or_false, Bool.false_or, Bool.or_true, Bool.true_or, hin, e2, Bool.false_eq_true, if_false, ge_iff_le]
              cases hT : decide (5 ≤ T) with
              | true =>
                simp (disch := omega) only [obs, rC_c, rA_agg, rT_tup, rP_ptr, rW_own, rS_sb, rF_sb, uncV_cons, uncO_cons, nilV_nil, rO_ob, rN_ob, unc_cons, asI_int, asB_bool, asS_string, asSl_sl, asSl_nl, asFn_fn, asP_cp, nrm_sl, nrm_nl, need_true, ct, cf, bd_eq, natD_zero, natD_succ, natD_one, noYl_v, noYl_sl, noYl_nl, noYl_cp, noYl_fn, Bool.and_true, Bool.true_and, Bool.and_self, beqN_self, Bool.not_true, Bool.not_false, Bool.and_false, Bool.false_and, Bool.or_false, Bool.false_or, Bool.or_true, Bool.true_or, hT, hk39, ge_iff_le]
                generalize IntKind.i64.wrap (en * T) = lt
                cases hR : decide (lt ≤ r100) with
                | true =>
                  simp (disch := omega) only [obs, rC_c, rA_agg, rT_tup, rP_ptr, rW_own, rS_sb, rF_sb, uncV_cons, uncO_cons, nilV_nil, rO_ob, rN_ob, unc_cons, asI_int, asB_bool, asS_string, asSl_sl, asSl_nl, asFn_fn, asP_cp, nrm_sl, nrm_nl, need_true, ct, cf, bd_eq, natD_zero, natD_succ, natD_one, noYl_v, noYl_sl, noYl_nl, noYl_cp, noYl_fn, Bool.and_true, Bool.true_and, Bool.and_self, beqN_self, Bool.not_true, Bool.not_false, Bool.and_false, Bool.false_and, Bool.or_false, Bool.false_or, Bool.or_true, Bool.true_or, wrap_in, dlt_t, dlt_f, dle_t, dle_f, dgt_t, dgt_f, dge_t, dge_f, ibeq_t, ibeq_f, ibne_t, ibne_f, inR_int, beqN_eq, bleN_le, hR, strs_length, Nat.div_one, Nat.mul_one, List.length_append, List.length_cons, List.length_nil, Nat.zero_add, strs_snoc]
                  rfl
                | false =>
                  simp (disch := omega) only [obs, rC_c, rA_agg, rT_tup, rP_ptr, rW_own, rS_sb, rF_sb, uncV_cons, uncO_cons, nilV_nil, rO_ob, rN_ob, unc_cons, asI_int, asB_bool, asS_string, asSl_sl, asSl_nl, asFn_fn, asP_cp, nrm_sl, nrm_nl, need_true, ct, cf, bd_eq, natD_zero, natD_succ, natD_one, noYl_v, noYl_sl, noYl_nl, noYl_cp, noYl_fn, Bool.and_true, Bool.true_and, Bool.and_self, beqN_self, Bool.not_true, Bool.not_false, Bool.and_false, Bool.false_and, Bool.or_false, Bool.false_or, Bool.or_true, Bool.true_or, wrap_in, dlt_t, dlt_f, dle_t, dle_f, dgt_t, dgt_f, dge_t, dge_f, ibeq_t, ibeq_f, ibne_t, ibne_f, inR_int, beqN_eq, bleN_le, hR, strs_length, Nat.div_one, Nat.mul_one]
                  rfl
              | false =>
                simp (disch := omega) only [obs, rC_c, rA_agg, rT_tup, rP_ptr, rW_own, rS_sb, rF_sb, uncV_cons, uncO_cons, nilV_nil, rO_ob, rN_ob, unc_cons, asI_int, asB_bool, asS_string, asSl_sl, asSl_nl, asFn_fn, asP_cp, nrm_sl, nrm_nl, need_true, ct, cf, bd_eq, natD_zero, natD_succ, natD_one, noYl_v, noYl_sl, noYl_nl, noYl_cp, noYl_fn, Bool.and_true, Bool.true_and, Bool.and_self, beqN_self, Bool.not_true, Bool.not_false, Bool.and_false, Bool.false_and, Bool.or_false, Bool.false_or, Bool.or_true, Bool.true_or, wrap_in, dlt_t, dlt_f, dle_t, dle_f, dgt_t, dgt_f, dge_t, dge_f, ibeq_t, ibeq_f, ibne_t, ibne_f, inR_int, beqN_eq, bleN_le, hT, strs_length, Nat.div_one, Nat.mul_one]
                rfl
          · rfl
          · intro i hi
            have hx := hCc CY[i] (List.getElem_mem hi)
            have hxl := hx.2.length
            rw [List.length_map] at hxl
            have hnx : (CY.take (i + 1)).foldl (totL s) (0, 0) = totL s ((CY.take i).foldl (totL s) (0, 0)) CY[i] := by
              rw [List.take_succ_eq_append_getElem hi, List.foldl_append]; rfl
            rw [hnx]
            simp (disch := omega) only [obs, rC_c, rA_agg, rT_tup, rP_ptr, rW_own, rS_sb, rF_sb, uncV_cons, uncO_cons, nilV_nil, rO_ob, rN_ob, unc_cons, asI_int, asB_bool, asS_string, asSl_sl, asSl_nl, asFn_fn, asP_cp, nrm_sl, nrm_nl, need_true, ct, cf, bd_eq, natD_zero, natD_succ, natD_one, noYl_v, noYl_sl, noYl_nl, noYl_cp, noYl_fn, Bool.and_true, Bool.true_and, Bool.and_self, beqN_self, Bool.not_true, Bool.not_false, Bool.and_false, Bool.false_and, Bool.or_false, Bool.false_or, Bool.or_true, Bool.true_or, wrap_in, dlt_t, dlt_f, dle_t, dle_f, dgt_t, dgt_f, dge_t, dge_f, ibeq_t, ibeq_f, ibne_t, ibne_f, inR_int, beqN_eq, bleN_le, Int.toNat_natCast, Nat.mul_one, Nat.div_one, strs_length, cycs_drop CY hi, cyC]
            generalize (CY.take i).foldl (totL s) (0, 0) = q
            generalize CY[i] = x at *
            rw [iter_runx (fun i : Nat => (((x.take i).foldl (totC s) q).1, ((x.take i).foldl (totC s) q).2, ((i : Nat) : Int), (C.nl, C.nl, ()), (C.sl CY.length (cycs CY), strs G, ()), ())) 0 ((x.foldl (totC s) q).1, (x.foldl (totC s) q).2, (x.length : Int), (C.nl, C.nl, ()), (C.sl CY.length (cycs CY), strs G, ()), ()) x.length ?_ ?_ ?_ (by omega)]
            · simp (disch := omega) only [obs, rC_c, rA_agg, rT_tup, rP_ptr, rW_own, rS_sb, rF_sb, uncV_cons, uncO_cons, nilV_nil, rO_ob, rN_ob, unc_cons, asI_int, asB_bool, asS_string, asSl_sl, asSl_nl, asFn_fn, asP_cp, nrm_sl, nrm_nl, need_true, ct, cf, bd_eq, natD_zero, natD_succ, natD_one, noYl_v, noYl_sl, noYl_nl, noYl_cp, noYl_fn, Bool.and_true, Bool.true_and, Bool.and_self, beqN_self, Bool.not_true, Bool.not_false, Bool.and_false, Bool.false_and, Bool.or_false, Bool.false_or, Bool.or_true, Bool.true_or, wrap_in, dlt_t, dlt_f, dle_t, dle_f, dgt_t, dgt_f, dge_t, dge_f, ibeq_t, ibeq_f, ibne_t, ibne_f, inR_int, beqN_eq, bleN_le, strs_length, Nat.div_one, Nat.mul_one]
              rfl
            · rfl
            · intro m hm
              have hnx : (x.take (m + 1)).foldl (totC s) q = totC s ((x.take m).foldl (totC s) q) x[m] := by
                rw [List.take_succ_eq_append_getElem hm, List.foldl_append]; rfl
              rw [hnx]
              generalize (x.take m).foldl (totC s) q = q'
              unfold totC
              rw [← toList_beq]
              simp (disch := omega) only [obs, rC_c, rA_agg, rT_tup, rP_ptr, rW_own, rS_sb, rF_sb, uncV_cons, uncO_cons, nilV_nil, rO_ob, rN_ob, unc_cons, asI_int, asB_bool, asS_string, asSl_sl, asSl_nl, asFn_fn, asP_cp, nrm_sl, nrm_nl, need_true, ct, cf, bd_eq, natD_zero, natD_succ, natD_one, noYl_v, noYl_sl, noYl_nl, noYl_cp, noYl_fn, Bool.and_true, Bool.true_and, Bool.and_self, beqN_self, Bool.not_true, Bool.not_false, Bool.and_false, Bool.false_and, Bool.or_false, Bool.false_or, Bool.or_true, Bool.true_or, wrap_in, dlt_t, dlt_f, dle_t, dle_f, dgt_t, dgt_f, dge_t, dge_f, ibeq_t, ibeq_f, ibne_t, ibne_f, inR_int, beqN_eq, bleN_le, Int.toNat_natCast, fl_at cc_length hm, cc, List.cons_append, strs_length, Nat.div_one, Nat.mul_one]
              cases x[m].nm.toList == s.toList <;> rfl
            · rw [List.take_length]
              simp (disch := omega) only [obs, rC_c, rA_agg, rT_tup, rP_ptr, rW_own, rS_sb, rF_sb, uncV_cons, uncO_cons, nilV_nil, rO_ob, rN_ob, unc_cons, asI_int, asB_bool, asS_string, asSl_sl, asSl_nl, asFn_fn, asP_cp, nrm_sl, nrm_nl, need_true, ct, cf, bd_eq, natD_zero, natD_succ, natD_one, noYl_v, noYl_sl, noYl_nl, noYl_cp, noYl_fn, Bool.and_true, Bool.true_and, Bool.and_self, beqN_self, Bool.not_true, Bool.not_false, Bool.and_false, Bool.false_and, Bool.or_false, Bool.false_or, Bool.or_true, Bool.true_or, wrap_in, dlt_t, dlt_f, dle_t, dle_f, dgt_t, dgt_f, dge_t, dge_f, ibeq_t, ibeq_f, ibne_t, ibne_f, inR_int, beqN_eq, bleN_le, strs_length, Nat.div_one, Nat.mul_one]
          · rw [List.take_length]
            simp (disch := omega) only [obs, rC_c, rA_agg, rT_tup, rP_ptr, rW_own, rS_sb, rF_sb, uncV_cons, uncO_cons, nilV_nil, rO_ob, rN_ob, unc_cons, asI_int, asB_bool, asS_string, asSl_sl, asSl_nl, asFn_fn, asP_cp, nrm_sl, nrm_nl, need_true, ct, cf, bd_eq, natD_zero, natD_succ, natD_one, noYl_v, noYl_sl, noYl_nl, noYl_cp, noYl_fn, Bool.and_true, Bool.true_and, Bool.and_self, beqN_self, Bool.not_true, Bool.not_false, Bool.and_false, Bool.false_and, Bool.or_false, Bool.false_or, Bool.or_true, Bool.true_or, wrap_in, dlt_t, dlt_f, dle_t, dle_f, dgt_t, dgt_f, dge_t, dge_f, ibeq_t, ibeq_f, ibne_t, ibne_f, inR_int, beqN_eq, bleN_le, strs_length, Nat.div_one, Nat.mul_one]
        · rw [List.take_length]
          simp (disch := omega) only [obs, rC_c, rA_agg, rT_tup, rP_ptr, rW_own, rS_sb, rF_sb, uncV_cons, uncO_cons, nilV_nil, rO_ob, rN_ob, unc_cons, asI_int, asB_bool, asS_string, asSl_sl, asSl_nl, asFn_fn, asP_cp, nrm_sl, nrm_nl, need_true, ct, cf, bd_eq, natD_zero, natD_succ, natD_one, noYl_v, noYl_sl, noYl_nl, noYl_cp, noYl_fn, Bool.and_true, Bool.true_and, Bool.and_self, beqN_self, Bool.not_true, Bool.not_false, Bool.and_false, Bool.false_and, Bool.or_false, Bool.false_or, Bool.or_true, Bool.true_or, wrap_in, dlt_t, dlt_f, dle_t, dle_f, dgt_t, dgt_f, dge_t, dge_f, ibeq_t, ibeq_f, ibne_t, ibne_f, inR_int, beqN_eq, bleN_le, strs_length, Nat.div_one, Nat.mul_one]
      · rfl
      · intro j hj
        have hx := hCc CY[j] (List.getElem_mem hj)
        have hxl := hx.2.length
        rw [List.length_map] at hxl
        have hB := foldFF (CY.take j) A (fun x hx' => hCc x (List.mem_of_mem_take hx')) hA
        have hnx : (CY.take (j + 1)).foldl (fun L x => (x.map Cnt.nm).foldl F L) A = (CY[j].map Cnt.nm).foldl F ((CY.take j).foldl (fun L x => (x.map Cnt.nm).foldl F L) A) := by
          rw [List.take_succ_eq_append_getElem hj, List.foldl_append]; rfl
        rw [hnx]
        generalize (CY.take j).foldl (fun L x => (x.map Cnt.nm).foldl F L) A = L at hB ⊢
        simp (disch := omega) only [obs, rC_c, rA_agg, rT_tup, rP_ptr, rW_own, rS_sb, rF_sb, uncV_cons, uncO_cons, nilV_nil, rO_ob, rN_ob, unc_cons, asI_int, asB_bool, asS_string, asSl_sl, asSl_nl, asFn_fn, asP_cp, nrm_sl, nrm_nl, need_true, ct, cf, bd_eq, natD_zero, natD_succ, natD_one, noYl_v, noYl_sl, noYl_nl, noYl_cp, noYl_fn, Bool.and_true, Bool.true_and, Bool.and_self, beqN_self, Bool.not_true, Bool.not_false, Bool.and_false, Bool.false_and, Bool.or_false, Bool.false_or, Bool.or_true, Bool.true_or, wrap_in, dlt_t, dlt_f, dle_t, dle_f, dgt_t, dgt_f, dge_t, dge_f, ibeq_t, ibeq_f, ibne_t, ibne_f, inR_int, beqN_eq, bleN_le, Int.toNat_natCast, Nat.mul_one, Nat.div_one, List.length_nil, Nat.zero_div, cycs_drop CY hj, cyC]
        generalize CY[j] = x at *
        rw [iter_runx (fun i : Nat => (encP (((x.take i).map Cnt.nm).foldl F L), ((i : Nat) : Int), (C.nl, C.nl, ()), (C.sl CY.length (cycs CY), ([] : List C), ()), ())) 0 (encP ((x.map Cnt.nm).foldl F L), (x.length : Int), (C.nl, C.nl, ()), (C.sl CY.length (cycs CY), ([] : List C), ()), ()) x.length ?_ ?_ ?_ (by omega)]
        · simp (disch := omega) only [obs, rC_c, rA_agg, rT_tup, rP_ptr, rW_own, rS_sb, rF_sb, uncV_cons, uncO_cons, nilV_nil, rO_ob, rN_ob, unc_cons, asI_int, asB_bool, asS_string, asSl_sl, asSl_nl, asFn_fn, asP_cp, nrm_sl, nrm_nl, need_true, ct, cf, bd_eq, natD_zero, natD_succ, natD_one, noYl_v, noYl_sl, noYl_nl, noYl_cp, noYl_fn, Bool.and_true, Bool.true_and, Bool.and_self, beqN_self, Bool.not_true, Bool.not_false, Bool.and_false, Bool.false_and, Bool.or_false, Bool.false_or, Bool.or_true, Bool.true_or, wrap_in, dlt_t, dlt_f, dle_t, dle_f, dgt_t, dgt_f, dge_t, dge_f, ibeq_t, ibeq_f, ibne_t, ibne_f, inR_int, beqN_eq, bleN_le, List.length_nil, Nat.div_one, Nat.mul_one, Nat.zero_div]
          rfl
        · rfl
        · intro i hi
          have hL := foldF ((x.take i).map Cnt.nm) L (fun s hs => hx.in6 s (by
            obtain ⟨c, hc, rfl⟩ := List.mem_map.1 hs
            exact List.mem_map.2 ⟨c, List.mem_of_mem_take hc, rfl⟩)) hB
          have hnx : ((x.take (i + 1)).map Cnt.nm).foldl F L = F (((x.take i).map Cnt.nm).foldl F L) x[i].nm := by
            rw [List.take_succ_eq_append_getElem hi, List.map_append, List.foldl_append]; rfl
          rw [hnx]
          generalize ((x.take i).map Cnt.nm).foldl F L = L' at hL ⊢
          have hp := (hF (L', x[i].nm) hL.1 hL.2 (hx.1 _ (List.getElem_mem hi)).1).1
          simp only at hp
          simp (disch := omega) only [obs, rC_c, rA_agg, rT_tup, rP_ptr, rW_own, rS_sb, rF_sb, uncV_cons, uncO_cons, nilV_nil, rO_ob, rN_ob, unc_cons, asI_int, asB_bool, asS_string, asSl_sl, asSl_nl, asFn_fn, asP_cp, nrm_sl, nrm_nl, need_true, ct, cf, bd_eq, natD_zero, natD_succ, natD_one, noYl_v, noYl_sl, noYl_nl, noYl_cp, noYl_fn, Bool.and_true, Bool.true_and, Bool.and_self, beqN_self, Bool.not_true, Bool.not_false, Bool.and_false, Bool.false_and, Bool.or_false, Bool.false_or, Bool.or_true, Bool.true_or, wrap_in, dlt_t, dlt_f, dle_t, dle_f, dgt_t, dgt_f, dge_t, dge_f, ibeq_t, ibeq_f, ibne_t, ibne_f, inR_int, beqN_eq, bleN_le, Int.toNat_natCast, Nat.mul_one, Nat.div_one, List.length_nil, Nat.zero_div, fl_at cc_length hi, cc, List.cons_append, noYl_encP, hp]
          rfl
        · rw [List.take_length]
          simp (disch := omega) only [obs, rC_c, rA_agg, rT_tup, rP_ptr, rW_own, rS_sb, rF_sb, uncV_cons, uncO_cons, nilV_nil, rO_ob, rN_ob, unc_cons, asI_int, asB_bool, asS_string, asSl_sl, asSl_nl, asFn_fn, asP_cp, nrm_sl, nrm_nl, need_true, ct, cf, bd_eq, natD_zero, natD_succ, natD_one, noYl_v, noYl_sl, noYl_nl, noYl_cp, noYl_fn, Bool.and_true, Bool.true_and, Bool.and_self, beqN_self, Bool.not_true, Bool.not_false, Bool.and_false, Bool.false_and, Bool.or_false, Bool.false_or, Bool.or_true, Bool.true_or, wrap_in, dlt_t, dlt_f, dle_t, dle_f, dgt_t, dgt_f, dge_t, dge_f, ibeq_t, ibeq_f, ibne_t, ibne_f, inR_int, beqN_eq, bleN_le, List.length_nil, Nat.div_one, Nat.mul_one, Nat.zero_div]
      · rw [List.take_length]
        simp (disch := omega) only [obs, rC_c, rA_agg, rT_tup, rP_ptr, rW_own, rS_sb, rF_sb, uncV_cons, uncO_cons, nilV_nil, rO_ob, rN_ob, unc_cons, asI_int, asB_bool, asS_string, asSl_sl, asSl_nl, asFn_fn, asP_cp, nrm_sl, nrm_nl, need_true, ct, cf, bd_eq, natD_zero, natD_succ, natD_one, noYl_v, noYl_sl, noYl_nl, noYl_cp, noYl_fn, Bool.and_true, Bool.true_and, Bool.and_self, beqN_self, Bool.not_true, Bool.not_false, Bool.and_false, Bool.false_and, Bool.or_false, Bool.false_or, Bool.or_true, Bool.true_or, wrap_in, dlt_t, dlt_f, dle_t, dle_f, dgt_t, dgt_f, dge_t, dge_f, ibeq_t, ibeq_f, ibne_t, ibne_f, inR_int, beqN_eq, bleN_le, List.length_nil, Nat.div_one, Nat.mul_one, Nat.zero_div]
    · rfl
    · intro j hj
      have hL := foldF (nm.take j) [] (fun s hs => hn' s (List.mem_of_mem_take hs)) ⟨by simp [asc6], by simp [in6]⟩
      have hnx : (nm.take (j + 1)).foldl F [] = F ((nm.take j).foldl F []) nm[j] := by
        rw [List.take_succ_eq_append_getElem hj, List.foldl_append]; rfl
      rw [hnx]
      generalize (nm.take j).foldl F [] = L' at hL ⊢
      have hp := (hF (L', nm[j]) hL.1 hL.2 (hn' _ (List.getElem_mem hj))).1
      simp only at hp
      simp (disch := omega) only [obs, rC_c, rA_agg, rT_tup, rP_ptr, rW_own, rS_sb, rF_sb, uncV_cons, uncO_cons, nilV_nil, rO_ob, rN_ob, unc_cons, asI_int, asB_bool, asS_string, asSl_sl, asSl_nl, asFn_fn, asP_cp, nrm_sl, nrm_nl, need_true, ct, cf, bd_eq, natD_zero, natD_succ, natD_one, noYl_v, noYl_sl, noYl_nl, noYl_cp, noYl_fn, Bool.and_true, Bool.true_and, Bool.and_self, beqN_self, Bool.not_true, Bool.not_false, Bool.and_false, Bool.false_and, Bool.or_false, Bool.false_or, Bool.or_true, Bool.true_or, wrap_in, dlt_t, dlt_f, dle_t, dle_f, dgt_t, dgt_f, dge_t, dge_f, ibeq_t, ibeq_f, ibne_t, ibne_f, inR_int, beqN_eq, bleN_le, asSl_nrm e2, Int.toNat_natCast, Nat.mul_one, Nat.div_one, List.length_nil, Nat.zero_div, strs_drop nm hj, noYl_encP, hp]
      rfl
    · rw [List.take_length]
      simp (disch := omega) only [obs, rC_c, rA_agg, rT_tup, rP_ptr, rW_own, rS_sb, rF_sb, uncV_cons, uncO_cons, nilV_nil, rO_ob, rN_ob, unc_cons, asI_int, asB_bool, asS_string, asSl_sl, asSl_nl, asFn_fn, asP_cp, nrm_sl, nrm_nl, need_true, ct, cf, bd_eq, natD_zero, natD_succ, natD_one, noYl_v, noYl_sl, noYl_nl, noYl_cp, noYl_fn, Bool.and_true, Bool.true_and, Bool.and_self, beqN_self, Bool.not_true, Bool.not_false, Bool.and_false, Bool.false_and, Bool.or_false, Bool.false_or, Bool.or_true, Bool.true_or, wrap_in, dlt_t, dlt_f, dle_t, dle_f, dgt_t, dgt_f, dge_t, dge_f, ibeq_t, ibeq_f, ibne_t, ibne_f, inR_int, beqN_eq, bleN_le, List.length_nil, Nat.div_one, Nat.mul_one, Nat.zero_div]
  · have hkp : kept cy l = cy ++ [l] := by unfold kept; rw [if_neg h12]
    have hkn : (cy ++ [l]).length = cy.length + 1 := by simp
    rw [dgt_f (show ((cy.length + 1 : Nat) : Int) ≤ 12 by omega)]
    simp only [cf]
    rw [hkp]
    rw [show C.sl (cy.length + 1) (cycs (cy ++ [l])) = C.sl (cy ++ [l]).length (cycs (cy ++ [l])) by rw [hkn]]
    have hCl : (cy ++ [l]).length ≤ 12 := hkp ▸ kept_length h1'
    have hCc : ∀ x ∈ (cy ++ [l]), cyc6 x := hkp ▸ kept_all (P := cyc6) hc' hl
    generalize hCY : (cy ++ [l]) = CY at *
    -- the names of the list
    rw [asSl_nrm e2]
    rw [iter_runx (fun j : Nat => (encP ((nm.take j).foldl F []), ((j : Nat) : Int), (C.nl, C.nl, ()), (C.sl CY.length (cycs CY), ([] : List C), ()), ())) 0 (encP (nm.foldl F []), (nm.length : Int), (C.nl, C.nl, ()), (C.sl CY.length (cycs CY), ([] : List C), ()), ()) nm.length ?_ ?_ ?_ (by omega)]
    · have hA := foldF nm [] hn' ⟨by simp [asc6], by simp [in6]⟩
      generalize nm.foldl F [] = A at hA ⊢
      simp (disch := omega) only [obs, rC_c, rA_agg, rT_tup, rP_ptr, rW_own, rS_sb, rF_sb, uncV_cons, uncO_cons, nilV_nil, rO_ob, rN_ob, unc_cons, asI_int, asB_bool, asS_string, asSl_sl, asSl_nl, asFn_fn, asP_cp, nrm_sl, nrm_nl, need_true, ct, cf, bd_eq, natD_zero, natD_succ, natD_one, noYl_v, noYl_sl, noYl_nl, noYl_cp, noYl_fn, Bool.and_true, Bool.true_and, Bool.and_self, beqN_self, Bool.not_true, Bool.not_false, Bool.and_false, Bool.false_and, Bool.or_false, Bool.false_or, Bool.or_true, Bool.true_or, wrap_in, dlt_t, dlt_f, dle_t, dle_f, dgt_t, dgt_f, dge_t, dge_f, ibeq_t, ibeq_f, ibne_t, ibne_f, inR_int, beqN_eq, bleN_le, List.length_nil, Nat.div_one, Nat.mul_one, Nat.zero_div]
      rw [iter_runx (fun j : Nat => (encP ((CY.take j).foldl (fun L x => (x.map Cnt.nm).foldl F L) A), ((j : Nat) : Int), (C.nl, C.nl, ()), (C.sl CY.length (cycs CY), ([] : List C), ()), ())) 0 (encP (CY.foldl (fun L x => (x.map Cnt.nm).foldl F L) A), (CY.length : Int), (C.nl, C.nl, ()), (C.sl CY.length (cycs CY), ([] : List C), ()), ()) CY.length ?_ ?_ ?_ (by omega)]
      · have hB := foldFF CY A hCc hA
        generalize CY.foldl (fun L x => (x.map Cnt.nm).foldl F L) A = al at hB ⊢
        obtain ⟨hB1, hB2⟩ := hB
        have hal := hB1.length
        refine ⟨al.filter (pS nm CY lv en), hB2.filter _, hB1.filter _, ?_⟩
        have hfl : (al.filter (pS nm CY lv en)).length ≤ 6 := (hB1.filter (pS nm CY lv en)).length
        simp (disch := omega) only [obs, rC_c, rA_agg, rT_tup, rP_ptr, rW_own, rS_sb, rF_sb, uncV_cons, uncO_cons, nilV_nil, rO_ob, rN_ob, unc_cons, asI_int, asB_bool, asS_string, asSl_sl, asSl_nl, asFn_fn, asP_cp, nrm_sl, nrm_nl, need_true, ct, cf, bd_eq, natD_zero, natD_succ, natD_one, noYl_v, noYl_sl, noYl_nl, noYl_cp, noYl_fn, Bool.and_true, Bool.true_and, Bool.and_self, beqN_self, Bool.not_true, Bool.not_false, Bool.and_false, Bool.false_and, Bool.or_false, Bool.false_or, Bool.or_true, Bool.true_or, wrap_in, dlt_t, dlt_f, dle_t, dle_f, dgt_t, dgt_f, dge_t, dge_f, ibeq_t, ibeq_f, ibne_t, ibne_f, inR_int, beqN_eq, bleN_le, asSl_encP, List.length_nil, Nat.div_one, Nat.mul_one, Nat.zero_div]
        rw [iter_runx (fun j : Nat => (((j : Nat) : Int), (C.nl, C.nl, ()), (C.sl CY.length (cycs CY), strs ((al.take j).filter (pS nm CY lv en)), ()), ())) 0 ((al.length : Int), (C.nl, C.nl, ()), (C.sl CY.length (cycs CY), strs (al.filter (pS nm CY lv en)), ()), ()) al.length ?_ ?_ ?_ (by omega)]
        · have t1 : List.take (al.filter (pS nm CY lv en)).length (strs (al.filter (pS nm CY lv en))) = strs (al.filter (pS nm CY lv en)) := List.take_of_length_le (by rw [strs_length]; omega)
          simp (disch := omega) only [obs, rC_c, rA_agg, rT_tup, rP_ptr, rW_own, rS_sb, rF_sb, uncV_cons, uncO_cons, nilV_nil, rO_ob, rN_ob, unc_cons, asI_int, asB_bool, asS_string, asSl_sl, asSl_nl, asFn_fn, asP_cp, nrm_sl, nrm_nl, need_true, ct, cf, bd_eq, natD_zero, natD_succ, natD_one, noYl_v, noYl_sl, noYl_nl, noYl_cp, noYl_fn, Bool.and_true, Bool.true_and, Bool.and_self, beqN_self, Bool.not_true, Bool.not_false, Bool.and_false, Bool.false_and, Bool.or_false, Bool.false_or, Bool.or_true, Bool.true_or, wrap_in, dlt_t, dlt_f, dle_t, dle_f, dgt_t, dgt_f, dge_t, dge_f, ibeq_t, ibeq_f, ibne_t, ibne_f, inR_int, beqN_eq, bleN_le, strs_length, Nat.div_one, Nat.mul_one, Nat.zero_add, t1]
        · rfl
        · intro j hj
          have hlen : ((al.take j).filter (pS nm CY lv en)).length ≤ 6 := Nat.le_trans (List.length_filter_le _ _) (by rw [List.length_take]; omega)
          have hin := sp_in fu (d + 2) hf nm al[j] (by omega)
          rw [filter_succ _ al hj]
          generalize (al.take j).filter (pS nm CY lv en) = G at hlen ⊢
          simp (disch := omega) only [obs, rC_c, rA_agg, rT_tup, rP_ptr, rW_own, rS_sb, rF_sb, uncV_cons, uncO_cons, nilV_nil, rO_ob, rN_ob, unc_cons, asI_int, asB_bool, asS_string, asSl_sl, asSl_nl, asFn_fn, asP_cp, nrm_sl, nrm_nl, need_true, ct, cf, bd_eq, natD_zero, natD_succ, natD_one, noYl_v, noYl_sl, noYl_nl, noYl_cp, noYl_fn, Bool.and_true, Bool.true_and, Bool.and_self, beqN_self, Bool.not_true, Bool.not_false, Bool.and_false, Bool.false_and, Bool.or_false, Bool.false_or, Bool.or_true, Bool.true_or, wrap_in, dlt_t, dlt_f, dle_t, dle_f, dgt_t, dgt_f, dge_t, dge_f, ibeq_t, ibeq_f, ibne_t, ibne_f, inR_int, beqN_eq, bleN_le, asSl_encP, Int.toNat_natCast, Nat.mul_one, Nat.div_one, strs_length, strs_drop al hj]
          generalize al[j] = s at *
          rw [iter_runx (fun i : Nat => (((CY.take i).foldl (totL s) (0, 0)).1, ((CY.take i).foldl (totL s) (0, 0)).2, ((i : Nat) : Int), (C.nl, C.nl, ()), (C.sl CY.length (cycs CY), strs G, ()), ())) 0 ((CY.foldl (totL s) (0, 0)).1, (CY.foldl (totL s) (0, 0)).2, (CY.length : Int), (C.nl, C.nl, ()), (C.sl CY.length (cycs CY), strs G, ()), ()) CY.length ?_ ?_ ?_ (by omega)]
          · have hps : pS nm CY lv en s = if hasS nm s then ((CY.foldl (totL s) (0, 0)).1 == 0) || decide (IntKind.i64.wrap (lv * (CY.foldl (totL s) (0, 0)).1) ≤ IntKind.i64.wrap (100 * (CY.foldl (totL s) (0, 0)).2)) else decide (5 ≤ (CY.foldl (totL s) (0, 0)).1) && decide (IntKind.i64.wrap (en * (CY.foldl (totL s) (0, 0)).1) ≤ IntKind.i64.wrap (100 * (CY.foldl (totL s) (0, 0)).2)) := rfl
            rw [hps]
            generalize CY.foldl (totL s) (0, 0) = q
            obtain ⟨T, R⟩ := q
            dsimp only
            simp (disch := omega) only [obs, rC_c, rA_agg, rT_tup, rP_ptr, rW_own, rS_sb, rF_sb, uncV_cons, uncO_cons, nilV_nil, rO_ob, rN_ob, unc_cons, asI_int, asB_bool, asS_string, asSl_sl, asSl_nl, asFn_fn, asP_cp, nrm_sl, nrm_nl, need_true, ct, cf, bd_eq, natD_zero, natD_succ, natD_one, noYl_v, noYl_sl, noYl_nl, noYl_cp, noYl_fn, Bool.and_true, Bool.true_and, Bool.and_self, beqN_self, Bool.not_true, Bool.not_false, Bool.and_false, Bool.false_and, Bool.or_false, Bool.false_or, Bool.or_true, Bool.true_or, wrap_in, dlt_t, dlt_f, dle_t, dle_f, dgt_t, dgt_f, dge_t, dge_f, ibeq_t, ibeq_f, ibne_t, ibne_f, inR_int, beqN_eq, bleN_le, e2, hin, ge_iff_le]
            generalize IntKind.i64.wrap (100 * R) = r100
            cases hasS nm s with
            | true =>
              cases hT : T == 0 with
              | true =>
                simp (disch := omega) only [obs, rC_c, rA_agg, rT_tup, rP_ptr, rW_own, rS_sb, rF_sb, uncV_cons, uncO_cons, nilV_nil, rO_ob, rN_ob, unc_cons, asI_int, asB_bool, asS_string, asSl_sl, asSl_nl, asFn_fn, asP_cp, nrm_sl, nrm_nl, need_true, ct, cf, bd_eq, natD_zero, natD_succ, natD_one, noYl_v, noYl_sl, noYl_nl, noYl_cp, noYl_fn, Bool.and_true, Bool.true_and, Bool.and_self, beqN_self, Bool.not_true, Bool.not_false, Bool.and_false, Bool.false_and, Bool.or_false, Bool.false_or, Bool.or_true, Bool.true_or, wrap_in, dlt_t, dlt_f, dle_t, dle_f, dgt_t, dgt_f, dge_t, dge_f, ibeq_t, ibeq_f, ibne_t, ibne_f, inR_int, beqN_eq, bleN_le, hT, strs_length, Nat.div_one, Nat.mul_one, List.length_append, List.length_cons, List.length_nil, Nat.zero_add, strs_snoc, if_true]
                rfl
              | false =>
                simp (disch := omega) only [obs, rC_c, rA_agg, rT_tup, rP_ptr, rW_own, rS_sb, rF_sb, uncV_cons, uncO_cons, nilV_nil, rO_ob, rN_ob, unc_cons, asI_int, asB_bool, asS_string, asSl_sl, asSl_nl, asFn_fn, asP_cp, nrm_sl, nrm_nl, need_true, ct, cf, bd_eq, natD_zero, natD_succ, natD_one, noYl_v, noYl_sl, noYl_nl, noYl_cp, noYl_fn, Bool.and_true, Bool.true_and, Bool.and_self, beqN_self, Bool.not_true, Bool.not_false, Bool.and_false, Bool.false_and, Bool.or_false, Bool.false_or, Bool.or_true, Bool.true_or, wrap_in, dlt_t, dlt_f, dle_t, dle_f, dgt_t, dgt_f, dge_t, dge_f, ibeq_t, ibeq_f, ibne_t, ibne_f, inR_int, beqN_eq, bleN_le, hT, hk40, ge_iff_le, if_true]
                generalize IntKind.i64.wrap (lv * T) = lt
                cases hR : decide (lt ≤ r100) with
                | true =>
                  simp (disch := omega) only [obs, rC_c, rA_agg, rT_tup, rP_ptr, rW_own, rS_sb, rF_sb, uncV_cons, uncO_cons, nilV_nil, rO_ob, rN_ob, unc_cons, asI_int, asB_bool, asS_string, asSl_sl, asSl_nl, asFn_fn, asP_cp, nrm_sl, nrm_nl, need_true, ct, cf, bd_eq, natD_zero, natD_succ, natD_one, noYl_v, noYl_sl, noYl_nl, noYl_cp, noYl_fn, Bool.and_true, Bool.true_and, Bool.and_self, beqN_self, Bool.not_true, Bool.not_false, Bool.and_false, Bool.false_and, Bool.or_false, Bool.false_or, Bool.or_true, Bool.true_or, wrap_in, dlt_t, dlt_f, dle_t, dle_f, dgt_t, dgt_f, dge_t, dge_f, ibeq_t, ibeq_f, ibne_t, ibne_f, inR_int, beqN_eq, bleN_le, hR, strs_length, Nat.div_one, Nat.mul_one, List.length_append, List.length_cons, List.length_nil, Nat.zero_add, strs_snoc]
                  rfl
                | false =>
                  simp (disch := omega) only [obs, rC_c, rA_agg, rT_tup, rP_ptr, rW_own, rS_sb, rF_sb, uncV_cons, uncO_cons, nilV_nil, rO_ob, rN_ob, unc_cons, asI_int, asB_bool, asS_string, asSl_sl, asSl_nl, asFn_fn, asP_cp, nrm_sl, nrm_nl, need_true, ct, cf, bd_eq, natD_zero, natD_succ, natD_one, noYl_v, noYl_sl, noYl_nl, noYl_cp, noYl_fn, Bool.and_true, Bool.true_and, Bool.and_self, beqN_self, Bool.not_true, Bool.not_false, Bool.and_false, Bool.false_and, Bool.or_false, Bool.false_or, Bool.or_true, Bool.true_or, wrap_in, dlt_t, dlt_f, dle_t, dle_f, dgt_t, dgt_f, dge_t, dge_f, ibeq_t, ibeq_f, ibne_t, ibne_f, inR_int, beqN_eq, bleN_le, hR, hin, e2, strs_length, Nat.div_one, Nat.mul_one]
                  rfl
            | false =>
              simp (disch := omega) only [obs, rC_c, rA_agg, rT_tup, rP_ptr, rW_own, rS_sb, rF_sb, uncV_cons, uncO_cons, nilV_nil, rO_ob, rN_ob, unc_cons, asI_int, asB_bool, asS_string, asSl_sl, asSl_nl, asFn_fn, asP_cp, nrm_sl, nrm_nl, need_true, ct, cf, bd_eq, natD_zero, natD_succ, natD_one, noYl_v, noYl_sl, noYl_nl, noYl_cp, noYl_fn, Bool.and_true, Bool.true_and, Bool.and_self, beqN_self, Bool.not_true, Bool.not_false, Bool.and_false, Bool.false_and, Bool.or_false, Bool.false_or, Bool.or_true, Bool.true_or, hin, e2, Bool.false_eq_true, if_false, ge_iff_le]
              cases hT : decide (5 ≤ T) with
              | true =>
                simp (disch := omega) only [obs, rC_c, rA_agg, rT_tup, rP_ptr, rW_own, rS_sb, rF_sb, uncV_cons, uncO_cons, nilV_nil, rO_ob, rN_ob, unc_cons, asI_int, asB_bool, asS_string, asSl_sl, asSl_nl, asFn_fn, asP_cp, nrm_sl, nrm_nl, need_true, ct, cf, bd_eq, natD_zero, natD_succ, natD_one, noYl_v, noYl_sl, noYl_nl, noYl_cp, noYl_fn, Bool.and_true, Bool.true_and, Bool.and_self, beqN_self, Bool.not_true, Bool.not_false, Bool.and_false, Bool.false_and, Bool.or_false, Bool.false_or, Bool.or_true, Bool.true_or, hT, hk39, ge_iff_le]
                generalize IntKind.i64.wrap (en * T) = lt
                cases hR : decide (lt ≤ r100) with
                | true =>
                  simp (disch := omega) only [obs, rC_c, rA_agg, rT_tup, rP_ptr, rW_own, rS_sb, rF_sb, uncV_cons, uncO_cons, nilV_nil, rO_ob, rN_ob, unc_cons, asI_int, asB_bool, asS_string, asSl_sl, asSl_nl, asFn_fn, asP_cp, nrm_sl, nrm_nl, need_true, ct, cf, bd_eq, natD_zero, natD_succ, natD_one, noYl_v, noYl_sl, noYl_nl, noYl_cp, noYl_fn, Bool.and_true, Bool.true_and, Bool.and_self, beqN_self, Bool.not_true, Bool.not_false, Bool.and_false, Bool.false_and, Bool.or_false, Bool.false_or, Bool.or_true, Bool.true_or, wrap_in, dlt_t, dlt_f, dle_t, dle_f, dgt_t, dgt_f, dge_t, dge_f, ibeq_t, ibeq_f, ibne_t, ibne_f, inR_int, beqN_eq, bleN_le, hR, strs_length, Nat.div_one, Nat.mul_one, List.length_append, List.length_cons, List.length_nil, Nat.zero_add, strs_snoc]
                  rfl
                | false =>
                  simp (disch := omega) only [obs, rC_c, rA_agg, rT_tup, rP_ptr, rW_own, rS_sb, rF_sb, uncV_cons, uncO_cons, nilV_nil, rO_ob, rN_ob, unc_cons, asI_int, asB_bool, asS_string, asSl_sl, asSl_nl, asFn_fn, asP_cp, nrm_sl, nrm_nl, need_true, ct, cf, bd_eq, natD_zero, natD_succ, natD_one, noYl_v, noYl_sl, noYl_nl, noYl_cp, noYl_fn, Bool.and_true, Bool.true_and, Bool.and_self, beqN_self, Bool.not_true, Bool.not_false, Bool.and_false, Bool.false_and, Bool.or_false, Bool.false_or, Bool.or_true, Bool.true_or, wrap_in, dlt_t, dlt_f, dle_t, dle_f, dgt_t, dgt_f, dge_t, dge_f, ibeq_t, ibeq_f, ibne_t, ibne_f, inR_int, beqN_eq, bleN_le, hR, strs_length, Nat.div_one, Nat.mul_one]
                  rfl
              | false =>
                simp (disch := omega) only [obs, rC_c, rA_agg, rT_tup, rP_ptr, rW_own, rS_sb, rF_sb, uncV_cons, uncO_cons, nilV_nil, rO_ob, rN_ob, unc_cons, asI_int, asB_bool, asS_string, asSl_sl, asSl_nl, asFn_fn, asP_cp, nrm_sl, nrm_nl, need_true, ct, cf, bd_eq, natD_zero, natD_succ, natD_one, noYl_v, noYl_sl, noYl_nl, noYl_cp, noYl_fn, Bool.and_true, Bool.true_and, Bool.and_self, beqN_self, Bool.not_true, Bool.not_false, Bool.and_false, Bool.false_and, Bool.or_false, Bool.false_or, Bool.or_true, Bool.true_or, wrap_in, dlt_t, dlt_f, dle_t, dle_f, dgt_t, dgt_f, dge_t, dge_f, ibeq_t, ibeq_f, ibne_t, ibne_f, inR_int, beqN_eq, bleN_le, hT, strs_length, Nat.div_one, Nat.mul_one]
                rfl
          · rfl
          · intro i hi
            have hx := hCc CY[i] (List.getElem_mem hi)
            have hxl := hx.2.length
            rw [List.length_map] at hxl
            have hnx : (CY.take (i + 1)).foldl (totL s) (0, 0) = totL s ((CY.take i).foldl (totL s) (0, 0)) CY[i] := by
              rw [List.take_succ_eq_append_getElem hi, List.foldl_append]; rfl
            rw [hnx]
            simp (disch := omega) only [obs, rC_c, rA_agg, rT_tup, rP_ptr, rW_own, rS_sb, rF_sb, uncV_cons, uncO_cons, nilV_nil, rO_ob, rN_ob, unc_cons, asI_int, asB_bool, asS_string, asSl_sl, asSl_nl, asFn_fn, asP_cp, nrm_sl, nrm_nl, need_true, ct, cf, bd_eq, natD_zero, natD_succ, natD_one, noYl_v, noYl_sl, noYl_nl, noYl_cp, noYl_fn, Bool.and_true, Bool.true_and, Bool.and_self, beqN_self, Bool.not_true, Bool.not_false, Bool.and_false, Bool.false_and, Bool.or_false, Bool.false_or, Bool.or_true, Bool.true_or, wrap_in, dlt_t, dlt_f, dle_t, dle_f, dgt_t, dgt_f, dge_t, dge_f, ibeq_t, ibeq_f, ibne_t, ibne_f, inR_int, beqN_eq, bleN_le, Int.toNat_natCast, Nat.mul_one, Nat.div_one, strs_length, cycs_drop CY hi, cyC]
            generalize (CY.take i).foldl (totL s) (0, 0) = q
            generalize CY[i] = x at *
            rw [iter_runx (fun i : Nat => (((x.take i).foldl (totC s) q).1, ((x.take i).foldl (totC s) q).2, ((i : Nat) : Int), (C.nl, C.nl, ()), (C.sl CY.length (cycs CY), strs G, ()), ())) 0 ((x.foldl (totC s) q).1, (x.foldl (totC s) q).2, (x.length : Int), (C.nl, C.nl, ()), (C.sl CY.length (cycs CY), strs G, ()), ()) x.length ?_ ?_ ?_ (by omega)]
            · simp (disch := omega) only [obs, rC_c, rA_agg, rT_tup, rP_ptr, rW_own, rS_sb, rF_sb, uncV_cons, uncO_cons, nilV_nil, rO_ob, rN_ob, unc_cons, asI_int, asB_bool, asS_string, asSl_sl, asSl_nl, asFn_fn, asP_cp, nrm_sl, nrm_nl, need_true, ct, cf, bd_eq, natD_zero, natD_succ, natD_one, noYl_v, noYl_sl, noYl_nl, noYl_cp, noYl_fn, Bool.and_true, Bool.true_and, Bool.and_self, beqN_self, Bool.not_true, Bool.not_false, Bool.and_false, Bool.false_and, Bool.or_false, Bool.false_or, Bool.or_true, Bool.true_or, wrap_in, dlt_t, dlt_f, dle_t, dle_f, dgt_t, dgt_f, dge_t, dge_f, ibeq_t, ibeq_f, ibne_t, ibne_f, inR_int, beqN_eq, bleN_le, strs_length, Nat.div_one, Nat.mul_one]
              rfl
            · rfl
            · intro m hm
              have hnx : (x.take (m + 1)).foldl (totC s) q = totC s ((x.take m).foldl (totC s) q) x[m] := by
                rw [List.take_succ_eq_append_getElem hm, List.foldl_append]; rfl
              rw [hnx]
              generalize (x.take m).foldl (totC s) q = q'
              unfold totC
              rw [← toList_beq]
              simp (disch := omega) only [obs, rC_c, rA_agg, rT_tup, rP_ptr, rW_own, rS_sb, rF_sb, uncV_cons, uncO_cons, nilV_nil, rO_ob, rN_ob, unc_cons, asI_int, asB_bool, asS_string, asSl_sl, asSl_nl, asFn_fn, asP_cp, nrm_sl, nrm_nl, need_true, ct, cf, bd_eq, natD_zero, natD_succ, natD_one, noYl_v, noYl_sl, noYl_nl, noYl_cp, noYl_fn, Bool.and_true, Bool.true_and, Bool.and_self, beqN_self, Bool.not_true, Bool.not_false, Bool.and_false, Bool.false_and, Bool.or_false, Bool.false_or, Bool.or_true, Bool.true_or, wrap_in, dlt_t, dlt_f, dle_t, dle_f, dgt_t, dgt_f, dge_t, dge_f, ibeq_t, ibeq_f, ibne_t, ibne_f, inR_int, beqN_eq, bleN_le, Int.toNat_natCast, fl_at cc_length hm, cc, List.cons_append, strs_length, Nat.div_one, Nat.mul_one]
              cases x[m].nm.toList == s.toList <;> rfl
            · rw [List.take_length]
              simp (disch := omega) only [obs, rC_c, rA_agg, rT_tup, rP_ptr, rW_own, rS_sb, rF_sb, uncV_cons, uncO_cons, nilV_nil, rO_ob, rN_ob, unc_cons, asI_int, asB_bool, asS_string, asSl_sl, asSl_nl, asFn_fn, asP_cp, nrm_sl, nrm_nl, need_true, ct, cf, bd_eq, natD_zero, natD_succ, natD_one, noYl_v, noYl_sl, noYl_nl, noYl_cp, noYl_fn, Bool.and_true, Bool.true_and, Bool.and_self, beqN_self, Bool.not_true, Bool.not_false, Bool.and_false, Bool.false_and, Bool.or_false, Bool.false_or, Bool.or_true, Bool.true_or, wrap_in, dlt_t, dlt_f, dle_t, dle_f, dgt_t, dgt_f, dge_t, dge_f, ibeq_t, ibeq_f, ibne_t, ibne_f, inR_int, beqN_eq, bleN_le, strs_length, Nat.div_one, Nat.mul_one]
          · rw [List.take_length]
            simp (disch := omega) only [obs, rC_c, rA_agg, rT_tup, rP_ptr, rW_own, rS_sb, rF_sb, uncV_cons, uncO_cons, nilV_nil, rO_ob, rN_ob, unc_cons, asI_int, asB_bool, asS_string, asSl_sl, asSl_nl, asFn_fn, asP_cp, nrm_sl, nrm_nl, need_true, ct, cf, bd_eq, natD_zero, natD_succ, natD_one, noYl_v, noYl_sl, noYl_nl, noYl_cp, noYl_fn, Bool.and_true, Bool.true_and, Bool.and_self, beqN_self, Bool.not_true, Bool.not_false, Bool.and_false, Bool.false_and, Bool.or_false, Bool.false_or, Bool.or_true, Bool.true_or, wrap_in, dlt_t, dlt_f, dle_t, dle_f, dgt_t, dgt_f, dge_t, dge_f, ibeq_t, ibeq_f, ibne_t, ibne_f, inR_int, beqN_eq, bleN_le, strs_length, Nat.div_one, Nat.mul_one]
        · rw [List.take_length]
          simp (disch := omega) only [obs, rC_c, rA_agg, rT_tup, rP_ptr, rW_own, rS_sb, rF_sb, uncV_cons, uncO_cons, nilV_nil, rO_ob, rN_ob, unc_cons, asI_int, asB_bool, asS_string, asSl_sl, asSl_nl, asFn_fn, asP_cp, nrm_sl, nrm_nl, need_true, ct, cf, bd_eq, natD_zero, natD_succ, natD_one, noYl_v, noYl_sl, noYl_nl, noYl_cp, noYl_fn, Bool.and_true, Bool.true_and, Bool.and_self, beqN_self, Bool.not_true, Bool.not_false, Bool.and_false, Bool.false_and, Bool.or_false, Bool.false_or, Bool.or_true, Bool.true_or, wrap_in, dlt_t, dlt_f, dle_t, dle_f, dgt_t, dgt_f, dge_t, dge_f, ibeq_t, ibeq_f, ibne_t, ibne_f, inR_int, beqN_eq, bleN_le, strs_length, Nat.div_one, Nat.mul_one]
      · rfl
      · intro j hj
        have hx := hCc CY[j] (List.getElem_mem hj)
        have hxl := hx.2.length
        rw [List.length_map] at hxl
        have hB := foldFF (CY.take j) A (fun x hx' => hCc x (List.mem_of_mem_take hx')) hA
        have hnx : (CY.take (j + 1)).foldl (fun L x => (x.map Cnt.nm).foldl F L) A = (CY[j].map Cnt.nm).foldl F ((CY.take j).foldl (fun L x => (x.map Cnt.nm).foldl F L) A) := by
          rw [List.take_succ_eq_append_getElem hj, List.foldl_append]; rfl
        rw [hnx]
        generalize (CY.take j).foldl (fun L x => (x.map Cnt.nm).foldl F L) A = L at hB ⊢
        simp (disch := omega) only [obs, rC_c, rA_agg, rT_tup, rP_ptr, rW_own, rS_sb, rF_sb, uncV_cons, uncO_cons, nilV_nil, rO_ob, rN_ob, unc_cons, asI_int, asB_bool, asS_string, asSl_sl, asSl_nl, asFn_fn, asP_cp, nrm_sl, nrm_nl, need_true, ct, cf, bd_eq, natD_zero, natD_succ, natD_one, noYl_v, noYl_sl, noYl_nl, noYl_cp, noYl_fn, Bool.and_true, Bool.true_and, Bool.and_self, beqN_self, Bool.not_true, Bool.not_false, Bool.and_false, Bool.false_and, Bool.or_false, Bool.false_or, Bool.or_true, Bool.true_or, wrap_in, dlt_t, dlt_f, dle_t, dle_f, dgt_t, dgt_f, dge_t, dge_f, ibeq_t, ibeq_f, ibne_t, ibne_f, inR_int, beqN_eq, bleN_le, Int.toNat_natCast, Nat.mul_one, Nat.div_one, List.length_nil, Nat.zero_div, cycs_drop CY hj, cyC]
        generalize CY[j] = x at *
        rw [iter_runx (fun i : Nat => (encP (((x.take i).map Cnt.nm).foldl F L), ((i : Nat) : Int), (C.nl, C.nl, ()), (C.sl CY.length (cycs CY), ([] : List C), ()), ())) 0 (encP ((x.map Cnt.nm).foldl F L), (x.length : Int), (C.nl, C.nl, ()), (C.sl CY.length (cycs CY), ([] : List C), ()), ()) x.length ?_ ?_ ?_ (by omega)]
        · simp (disch := omega) only [obs, rC_c, rA_agg, rT_tup, rP_ptr, rW_own, rS_sb, rF_sb, uncV_cons, uncO_cons, nilV_nil, rO_ob, rN_ob, unc_cons, asI_int, asB_bool, asS_string, asSl_sl, asSl_nl, asFn_fn, asP_cp, nrm_sl, nrm_nl, need_true, ct, cf, bd_eq, natD_zero, natD_succ, natD_one, noYl_v, noYl_sl, noYl_nl, noYl_cp, noYl_fn, Bool.and_true, Bool.true_and, Bool.and_self, beqN_self, Bool.not_true, Bool.not_false, Bool.and_false, Bool.false_and, Bool.or_false, Bool.false_or, Bool.or_true, Bool.true_or, wrap_in, dlt_t, dlt_f, dle_t, dle_f, dgt_t, dgt_f, dge_t, dge_f, ibeq_t, ibeq_f, ibne_t, ibne_f, inR_int, beqN_eq, bleN_le, List.length_nil, Nat.div_one, Nat.mul_one, Nat.zero_div]
          rfl
        · rfl
        · intro i hi
          have hL := foldF ((x.take i).map Cnt.nm) L (fun s hs => hx.in6 s (by
            obtain ⟨c, hc, rfl⟩ := List.mem_map.1 hs
            exact List.mem_map.2 ⟨c, List.mem_of_mem_take hc, rfl⟩)) hB
          have hnx : ((x.take (i + 1)).map Cnt.nm).foldl F L = F (((x.take i).map Cnt.nm).foldl F L) x[i].nm := by
            rw [List.take_succ_eq_append_getElem hi, List.map_append, List.foldl_append]; rfl
          rw [hnx]
          generalize ((x.take i).map Cnt.nm).foldl F L = L' at hL ⊢
          have hp := (hF (L', x[i].nm) hL.1 hL.2 (hx.1 _ (List.getElem_mem hi)).1).1
          simp only at hp
          simp (disch := omega) only [obs, rC_c, rA_agg, rT_tup, rP_ptr, rW_own, rS_sb, rF_sb, uncV_cons, uncO_cons, nilV_nil, rO_ob, rN_ob, unc_cons, asI_int, asB_bool, asS_string, asSl_sl, asSl_nl, asFn_fn, asP_cp, nrm_sl, nrm_nl, need_true, ct, cf, bd_eq, natD_zero, natD_succ, natD_one, noYl_v, noYl_sl, noYl_nl, noYl_cp, noYl_fn, Bool.and_true, Bool.true_and, Bool.and_self, beqN_self, Bool.not_true, Bool.not_false, Bool.and_false, Bool.false_and, Bool.or_false, Bool.false_or, Bool.or_true, Bool.true_or, wrap_in, dlt_t, dlt_f, dle_t, dle_f, dgt_t, dgt_f, dge_t, dge_f, ibeq_t, ibeq_f, ibne_t, ibne_f, inR_int, beqN_eq, bleN_le, Int.toNat_natCast, Nat.mul_one, Nat.div_one, List.length_nil, Nat.zero_div, fl_at cc_length hi, cc, List.cons_append, noYl_encP, hp]
          rfl
        · rw [List.take_length]
          simp (disch := omega) only [obs, rC_c, rA_agg, rT_tup, rP_ptr, rW_own, rS_sb, rF_sb, uncV_cons, uncO_cons, nilV_nil, rO_ob, rN_ob, unc_cons, asI_int, asB_bool, asS_string, asSl_sl, asSl_nl, asFn_fn, asP_cp, nrm_sl, nrm_nl, need_true, ct, cf, bd_eq, natD_zero, natD_succ, natD_one, noYl_v, noYl_sl, noYl_nl, noYl_cp, noYl_fn, Bool.and_true, Bool.true_and, Bool.and_self, beqN_self, Bool.not_true, Bool.not_false, Bool.and_false, Bool.false_and, Bool.or_false, Bool.false_or, Bool.or_true, Bool.true_or, wrap_in, dlt_t, dlt_f, dle_t, dle_f, dgt_t, dgt_f, dge_t, dge_f, ibeq_t, ibeq_f, ibne_t, ibne_f, inR_int, beqN_eq, bleN_le, List.length_nil, Nat.div_one, Nat.mul_one, Nat.zero_div]
      · rw [List.take_length]
        simp (disch := omega) only [obs, rC_c, rA_agg, rT_tup, rP_ptr, rW_own, rS_sb, rF_sb, uncV_cons, uncO_cons, nilV_nil, rO_ob, rN_ob, unc_cons, asI_int, asB_bool, asS_string, asSl_sl, asSl_nl, asFn_fn, asP_cp, nrm_sl, nrm_nl, need_true, ct, cf, bd_eq, natD_zero, natD_succ, natD_one, noYl_v, noYl_sl, noYl_nl, noYl_cp, noYl_fn, Bool.and_true, Bool.true_and, Bool.and_self, beqN_self, Bool.not_true, Bool.not_false, Bool.and_false, Bool.false_and, Bool.or_false, Bool.false_or, Bool.or_true, Bool.true_or, wrap_in, dlt_t, dlt_f, dle_t, dle_f, dgt_t, dgt_f, dge_t, dge_f, ibeq_t, ibeq_f, ibne_t, ibne_f, inR_int, beqN_eq, bleN_le, List.length_nil, Nat.div_one, Nat.mul_one, Nat.zero_div]
    · rfl
    · intro j hj
      have hL := foldF (nm.take j) [] (fun s hs => hn' s (List.mem_of_mem_take hs)) ⟨by simp [asc6], by simp [in6]⟩
      have hnx : (nm.take (j + 1)).foldl F [] = F ((nm.take j).foldl F []) nm[j] := by
        rw [List.take_succ_eq_append_getElem hj, List.foldl_append]; rfl
      rw [hnx]
      generalize (nm.take j).foldl F [] = L' at hL ⊢
      have hp := (hF (L', nm[j]) hL.1 hL.2 (hn' _ (List.getElem_mem hj))).1
      simp only at hp
      simp (disch := omega) only [obs, rC_c, rA_agg, rT_tup, rP_ptr, rW_own, rS_sb, rF_sb, uncV_cons, uncO_cons, nilV_nil, rO_ob, rN_ob, unc_cons, asI_int, asB_bool, asS_string, asSl_sl, asSl_nl, asFn_fn, asP_cp, nrm_sl, nrm_nl, need_true, ct, cf, bd_eq, natD_zero, natD_succ, natD_one, noYl_v, noYl_sl, noYl_nl, noYl_cp, noYl_fn, Bool.and_true, Bool.true_and, Bool.and_self, beqN_self, Bool.not_true, Bool.not_false, Bool.and_false, Bool.false_and, Bool.or_false, Bool.false_or, Bool.or_true, Bool.true_or, wrap_in, dlt_t, dlt_f, dle_t, dle_f, dgt_t, dgt_f, dge_t, dge_f, ibeq_t, ibeq_f, ibne_t, ibne_f, inR_int, beqN_eq, bleN_le, asSl_nrm e2, Int.toNat_natCast, Nat.mul_one, Nat.div_one, List.length_nil, Nat.zero_div, strs_drop nm hj, noYl_encP, hp]
      rfl
    · rw [List.take_length]
      simp (disch := omega) only [obs, rC_c, rA_agg, rT_tup, rP_ptr, rW_own, rS_sb, rF_sb, uncV_cons, uncO_cons, nilV_nil, rO_ob, rN_ob, unc_cons, asI_int, asB_bool, asS_string, asSl_sl, asSl_nl, asFn_fn, asP_cp, nrm_sl, nrm_nl, need_true, ct, cf, bd_eq, natD_zero, natD_succ, natD_one, noYl_v, noYl_sl, noYl_nl, noYl_cp, noYl_fn, Bool.and_true, Bool.true_and, Bool.and_self, beqN_self, Bool.not_true, Bool.not_false, Bool.and_false, Bool.false_and, Bool.or_false, Bool.false_or, Bool.or_true, Bool.true_or, wrap_in, dlt_t, dlt_f, dle_t, dle_f, dgt_t, dgt_f, dge_t, dge_f, ibeq_t, ibeq_f, ibne_t, ibne_f, inR_int, beqN_eq, bleN_le, List.length_nil, Nat.div_one, Nat.mul_one, Nat.zero_div]
end
end Go.Proofs.Ytofalpngdbinbaa
/- What the statements are about: cycles, parameters, histories that are made of numbers. -/
namespace Go.Proofs.Ytofalpngdbinbaa
open Go Go.PM

/-- A loop whose state is known by a property. -/
theorem iter_bind_ex {A B : Type} {body : A → Option (Nat × A)} {fu : Nat} {x : A} {K : Nat × A → Option B} (R : Option B → Prop) (J : Nat → A → Prop) (Q : A → Prop) (e k : Nat) (hx : J 0 x)
    (h : ∀ j y, j < k → J j y → ∃ y', body y = some (0, y') ∧ J (j + 1) y') (he : ∀ y, J k y → ∃ z, body y = some (e + 1, z) ∧ Q z) (hf : k < fu) (hK : ∀ z, Q z → R (K (e, z))) : R ((iter body fu x).bind K) := by
  have key : ∀ (n fu : Nat) (y : A), n ≤ k → J (k - n) y → n < fu → ∃ z, iter body fu y = some (e, z) ∧ Q z := by
    intro n
    induction n with
    | zero =>
      intro fu y _ hy hfu
      obtain ⟨z, h1, h2⟩ := he y hy
      obtain ⟨m, rfl⟩ : ∃ m, fu = m + 1 := ⟨fu - 1, by omega⟩
      exact ⟨z, by simp [iter, h1], h2⟩
    | succ n ih =>
      intro fu y hn hy hfu
      obtain ⟨y', h1, h2⟩ := h (k - (n + 1)) y (by omega) hy
      rw [show k - (n + 1) + 1 = k - n by omega] at h2
      obtain ⟨m, rfl⟩ : ∃ m, fu = m + 1 := ⟨fu - 1, by omega⟩
      obtain ⟨z, h3, h4⟩ := ih m y' (by omega) h2 (by omega)
      exact ⟨z, by simp [iter, h1, h3], h4⟩
  obtain ⟨z, h1, h2⟩ := key k fu x (Nat.le_refl _) (by rw [Nat.sub_self]; exact hx) hf
  rw [h1]
  exact hK z h2

theorem names6_drop {j : Nat} (hj : j < 6) : List.drop j [C.v (.string n0), C.v (.string n1), C.v (.string n2), C.v (.string n3), C.v (.string n4), C.v (.string n5)] = C.v (.string (names6[j]'hj)) :: List.drop (j + 1) [C.v (.string n0), C.v (.string n1), C.v (.string n2), C.v (.string n3), C.v (.string n4), C.v (.string n5)] := by
  have : j = 0 ∨ j = 1 ∨ j = 2 ∨ j = 3 ∨ j = 4 ∨ j = 5 := by omega
  rcases this with rfl | rfl | rfl | rfl | rfl | rfl <;> rfl
theorem rk_at {j : Nat} (hj : j < 6) : rk (names6[j]'hj) = j := by
  have : j = 0 ∨ j = 1 ∨ j = 2 ∨ j = 3 ∨ j = 4 ∨ j = 5 := by omega
  rcases this with rfl | rfl | rfl | rfl | rfl | rfl
  · exact (by decide : rk n0 = 0)
  · exact (by decide : rk n1 = 1)
  · exact (by decide : rk n2 = 2)
  · exact (by decide : rk n3 = 3)
  · exact (by decide : rk n4 = 4)
  · exact (by decide : rk n5 = 5)
theorem cc_snoc (l : List Cnt) (s : ByteArray) (t r : Int) : fl cc l ++ [C.v (.string s), C.v (.int .i64 t), C.v (.int .i64 r)] = fl cc (l ++ [⟨s, t, r⟩]) := fl_snoc l ⟨s, t, r⟩

theorem drop_putAt (cs : List C) (x : C) {off m : Nat} (h : off + 1 ≤ m) (hl : off < cs.length) : List.drop m (putAt cs off [x]) = List.drop m cs := by
  apply List.ext_getElem?
  intro i
  rw [List.getElem?_drop, List.getElem?_drop]
  unfold PM.putAt
  rw [List.append_assoc, List.getElem?_append_right (by rw [List.length_take]; omega), List.getElem?_append_right (by rw [List.length_take]; simp; omega), List.getElem?_drop]
  congr 1
  simp; omega
theorem len_putAt (cs : List C) (x : C) {off : Nat} (hl : off < cs.length) : (putAt cs off [x]).length = cs.length := by
  unfold PM.putAt; simp; omega

section
variable (fu d : Nat) (hf : 18446744073709551616 ≤ fu) (L : List Int) (hL : L.length ≤ 2000)
include hf hL
theorem sp_Cycle (i : Nat) : ∃ (l : List Cnt) (j : Nat), cyc6 l ∧ cl fu (d + 4) fn_synopticdata_Cycle [V.ptr 1000000 0] [srcO L i] = some ⟨V.c (cyC l), [srcO L j], none⟩ := by
  have a0 : (⟨#[48, 49, 50, 51, 52]⟩ : ByteArray) = n0 := rfl
  have a1 : (⟨#[55, 55, 55, 55, 55]⟩ : ByteArray) = n1 := rfl
  have a2 : (⟨#[65, 76, 80, 72, 65]⟩ : ByteArray) = n2 := rfl
  have a3 : (⟨#[66, 82, 65, 86, 79]⟩ : ByteArray) = n3 := rfl
  have a4 : (⟨#[68, 69, 76, 84, 65]⟩ : ByteArray) = n4 := rfl
  have a5 : (⟨#[69, 67, 72, 79, 55]⟩ : ByteArray) = n5 := rfl
  unfold srcO srcC
  rw [eq_synopticdata_Cycle]
  simp only [a0, a1, a2, a3, a4, a5]
  refine iter_bind_ex (A := List C × Int × (C × Int × Unit) × Unit) (B := Out) (fu := fu) (fun o => ∃ (l : List Cnt) (j : Nat), cyc6 l ∧ o = some ⟨V.c (cyC l), [.ob ty_synoptickeep_Src 0 [C.sl L.length (ints L), C.v (.int .i64 (j : Nat))]], none⟩)
    (fun j y => ∃ (l : List Cnt) (q : Nat), ((∀ c ∈ l, cnt6 c) ∧ asc6 (l.map Cnt.nm) ∧ (∀ c ∈ l, rk c.nm < j) ∧ l.length ≤ j) ∧ y = (fl cc l, ((j : Nat) : Int), (C.sl L.length (ints L), ((q : Nat) : Int), ()), ()))
    (fun z => ∃ (l : List Cnt) (q : Nat), (cyc6 l ∧ l.length ≤ 6) ∧ z = (fl cc l, (6 : Int), (C.sl L.length (ints L), ((q : Nat) : Int), ()), ())) 0 6 ?_ ?_ ?_ (by omega) ?_
  · exact ⟨[], i, ⟨by simp, by simp [asc6], by simp, by simp⟩, rfl⟩
  · rintro j y hj ⟨l, q, ⟨h1, h2, h3, h4⟩, rfl⟩
    obtain ⟨v1, q1, c1, b1, b2⟩ := sp_N fu (d + 1) L q hL 3 (by omega)
    unfold srcO srcC at c1
    have hfl := fl_length cc_length l
    have hdv : (fl cc l).length / 3 = l.length := by omega
    have hin : inR (j : Int) 6 = true := by simp [inR]; omega
    by_cases h0 : 0 < v1
    · obtain ⟨v2, q2, c2, b3, b4⟩ := sp_N fu (d + 1) L q1 hL 9 (by omega)
      obtain ⟨v3, q3, c3, b5, b6⟩ := sp_N fu (d + 1) L q2 hL (v2 + 1) (by omega)
      unfold srcO srcC at c2 c3
      refine ⟨_, ?_, l ++ [⟨names6[j], v2, v3⟩], q3, ⟨?_, ?_, ?_, by simp; omega⟩, rfl⟩
      · simp (disch := omega) only [obs, rC_c, rA_agg, rT_tup, rP_ptr, rW_own, rS_sb, rF_sb, uncV_cons, uncO_cons, nilV_nil, rO_ob, rN_ob, unc_cons, asI_int, asB_bool, asS_string, asSl_sl, asSl_nl, asFn_fn, asP_cp, nrm_sl, nrm_nl, need_true, ct, cf, bd_eq, natD_zero, natD_succ, natD_one, noYl_v, noYl_sl, noYl_nl, noYl_cp, noYl_fn, Bool.and_true, Bool.true_and, Bool.and_self, beqN_self, Bool.not_true, Bool.not_false, Bool.and_false, Bool.false_and, Bool.or_false, Bool.false_or, Bool.or_true, Bool.true_or, wrap_in, dlt_t, dlt_f, dle_t, dle_f, dgt_t, dgt_f, dge_t, dge_f, ibeq_t, ibeq_f, ibne_t, ibne_f, inR_int, beqN_eq, bleN_le, Int.toNat_natCast, Nat.mul_one, hin, names6_drop hj, c1, c2, c3, List.length_cons, List.length_nil, Nat.zero_add, Nat.reduceAdd, hdv, hfl, cc_snoc, List.length_append, fl_length cc_length]
        rfl
      · intro c hc
        rcases List.mem_append.1 hc with hc | hc
        · exact h1 c hc
        · simp at hc; subst hc; exact ⟨List.getElem_mem _, by dsimp only; omega, by dsimp only; omega⟩
      · rw [List.map_append]
        refine List.pairwise_append.2 ⟨h2, by simp, fun a ha b hb => ?_⟩
        obtain ⟨c, hc, rfl⟩ := List.mem_map.1 ha
        simp at hb; subst hb
        rw [rk_at hj]; exact h3 c hc
      · intro c hc
        rcases List.mem_append.1 hc with hc | hc
        · have := h3 c hc; omega
        · simp at hc; subst hc; simp only [rk_at hj]; omega
    · refine ⟨_, ?_, l, q1, ⟨h1, h2, fun c hc => by have := h3 c hc; omega, by omega⟩, rfl⟩
      simp (disch := omega) only [obs, rC_c, rA_agg, rT_tup, rP_ptr, rW_own, rS_sb, rF_sb, uncV_cons, uncO_cons, nilV_nil, rO_ob, rN_ob, unc_cons, asI_int, asB_bool, asS_string, asSl_sl, asSl_nl, asFn_fn, asP_cp, nrm_sl, nrm_nl, need_true, ct, cf, bd_eq, natD_zero, natD_succ, natD_one, noYl_v, noYl_sl, noYl_nl, noYl_cp, noYl_fn, Bool.and_true, Bool.true_and, Bool.and_self, beqN_self, Bool.not_true, Bool.not_false, Bool.and_false, Bool.false_and, Bool.or_false, Bool.false_or, Bool.or_true, Bool.true_or, wrap_in, dlt_t, dlt_f, dle_t, dle_f, dgt_t, dgt_f, dge_t, dge_f, ibeq_t, ibeq_f, ibne_t, ibne_f, inR_int, beqN_eq, bleN_le, Int.toNat_natCast, Nat.mul_one, hin, names6_drop hj, c1, List.length_cons, List.length_nil, Nat.zero_add, Nat.reduceAdd, hdv, hfl]
      rfl
  · rintro y ⟨l, q, ⟨h1, h2, h3, h4⟩, rfl⟩
    have hfl := fl_length cc_length l
    have hdv : (fl cc l).length / 3 = l.length := by omega
    refine ⟨_, ?_, l, q, ⟨⟨h1, h2⟩, h4⟩, rfl⟩
    simp (disch := omega) only [obs, rC_c, rA_agg, rT_tup, rP_ptr, rW_own, rS_sb, rF_sb, uncV_cons, uncO_cons, nilV_nil, rO_ob, rN_ob, unc_cons, asI_int, asB_bool, asS_string, asSl_sl, asSl_nl, asFn_fn, asP_cp, nrm_sl, nrm_nl, need_true, ct, cf, bd_eq, natD_zero, natD_succ, natD_one, noYl_v, noYl_sl, noYl_nl, noYl_cp, noYl_fn, Bool.and_true, Bool.true_and, Bool.and_self, beqN_self, Bool.not_true, Bool.not_false, Bool.and_false, Bool.false_and, Bool.or_false, Bool.false_or, Bool.or_true, Bool.true_or, wrap_in, dlt_t, dlt_f, dle_t, dle_f, dgt_t, dgt_f, dge_t, dge_f, ibeq_t, ibeq_f, ibne_t, ibne_f, inR_int, beqN_eq, bleN_le, hdv, hfl]
    rfl
  · rintro z ⟨l, q, ⟨h1, h4⟩, rfl⟩
    have hfl := fl_length cc_length l
    have hdv : (fl cc l).length / 3 = l.length := by omega
    have ht : List.take (l.length * 3) (fl cc l) = fl cc l := List.take_of_length_le (by omega)
    have hd3 : l.length * 3 / 3 = l.length := by omega
    refine ⟨l, q, h1, ?_⟩
    simp (disch := omega) only [obs, rC_c, rA_agg, rT_tup, rP_ptr, rW_own, rS_sb, rF_sb, uncV_cons, uncO_cons, nilV_nil, rO_ob, rN_ob, unc_cons, asI_int, asB_bool, asS_string, asSl_sl, asSl_nl, asFn_fn, asP_cp, nrm_sl, nrm_nl, need_true, ct, cf, bd_eq, natD_zero, natD_succ, natD_one, noYl_v, noYl_sl, noYl_nl, noYl_cp, noYl_fn, Bool.and_true, Bool.true_and, Bool.and_self, beqN_self, Bool.not_true, Bool.not_false, Bool.and_false, Bool.false_and, Bool.or_false, Bool.false_or, Bool.or_true, Bool.true_or, wrap_in, dlt_t, dlt_f, dle_t, dle_f, dgt_t, dgt_f, dge_t, dge_f, ibeq_t, ibeq_f, ibne_t, ibne_f, inR_int, beqN_eq, bleN_le, hfl, hd3, ht, Nat.zero_add, cyC]

theorem sp_Control (i : Nat) : ∃ (cs r40 r39 : List C) (lv en : Int) (j : Nat), (List.drop 40 cs = C.v (.int .i64 lv) :: r40 ∧ List.drop 39 cs = C.v (.int .i64 en) :: r39 ∧ 1 ≤ lv ∧ lv ≤ en ∧ en ≤ 100 ∧ cs.length = 41) ∧
    cl fu (d + 4) fn_synopticdata_Control [V.ptr 1000000 0] [srcO L i] = some ⟨V.agg cs, [srcO L j], none⟩ := by
  obtain ⟨v1, j1, c1, b1⟩ := sp_Pick fu d L i hL [4, 24, 100] (by simp)
  obtain ⟨v2, j2, c2, b2⟩ := sp_Pick fu d L j1 hL [20, 40, 5] (by simp)
  obtain ⟨v3, j3, c3, b3, b3'⟩ := sp_Range fu d L j2 hL 1 4 (by omega) ⟨by omega, by omega⟩
  obtain ⟨en, j4, c4, b4⟩ := sp_Pick fu d L j3 hL [50, 80] (by simp)
  obtain ⟨lv, j5, c5, b5⟩ := sp_Pick fu d L j4 hL [20, 50] (by simp)
  have hen : en = 50 ∨ en = 80 := by simpa using b4
  have hlv : lv = 20 ∨ lv = 50 := by simpa using b5
  have c1 : cl fu (d + 3) fn_synoptickeep_Src_Pick [V.ptr 1000000 0, V.c (C.sl 3 [C.v (.int .i64 4), C.v (.int .i64 24), C.v (.int .i64 100)])] [srcO L i] = _ := c1
  have c2 : cl fu (d + 3) fn_synoptickeep_Src_Pick [V.ptr 1000000 0, V.c (C.sl 3 [C.v (.int .i64 20), C.v (.int .i64 40), C.v (.int .i64 5)])] [srcO L j1] = _ := c2
  have c4 : cl fu (d + 3) fn_synoptickeep_Src_Pick [V.ptr 1000000 0, V.c (C.sl 2 [C.v (.int .i64 50), C.v (.int .i64 80)])] [srcO L j3] = _ := c4
  have c5 : cl fu (d + 3) fn_synoptickeep_Src_Pick [V.ptr 1000000 0, V.c (C.sl 2 [C.v (.int .i64 20), C.v (.int .i64 50)])] [srcO L j4] = _ := c5
  unfold srcO srcC at c1 c2 c3 c4 c5 ⊢
  rw [eq_synopticdata_Control, c1]
  simp only [obs, rC_c, rA_agg, rT_tup, rP_ptr, rW_own, rS_sb, rF_sb, uncV_cons, uncO_cons, nilV_nil, rO_ob, rN_ob, unc_cons, asI_int, asB_bool, asS_string, asSl_sl, asSl_nl, asFn_fn, asP_cp, nrm_sl, nrm_nl, need_true, ct, cf, bd_eq, natD_zero, natD_succ, natD_one, noYl_v, noYl_sl, noYl_nl, noYl_cp, noYl_fn, Bool.and_true, Bool.true_and, Bool.and_self, beqN_self, Bool.not_true, Bool.not_false, Bool.and_false, Bool.false_and, Bool.or_false, Bool.false_or, Bool.or_true, Bool.true_or, List.length_cons, List.length_nil, Nat.zero_add, Nat.reduceAdd]
  rw [c2]
  simp only [obs, rC_c, rA_agg, rT_tup, rP_ptr, rW_own, rS_sb, rF_sb, uncV_cons, uncO_cons, nilV_nil, rO_ob, rN_ob, unc_cons, asI_int, asB_bool, asS_string, asSl_sl, asSl_nl, asFn_fn, asP_cp, nrm_sl, nrm_nl, need_true, ct, cf, bd_eq, natD_zero, natD_succ, natD_one, noYl_v, noYl_sl, noYl_nl, noYl_cp, noYl_fn, Bool.and_true, Bool.true_and, Bool.and_self, beqN_self, Bool.not_true, Bool.not_false, Bool.and_false, Bool.false_and, Bool.or_false, Bool.false_or, Bool.or_true, Bool.true_or, List.length_cons, List.length_nil, Nat.zero_add, Nat.reduceAdd]
  rw [c3]
  simp only [obs, rC_c, rA_agg, rT_tup, rP_ptr, rW_own, rS_sb, rF_sb, uncV_cons, uncO_cons, nilV_nil, rO_ob, rN_ob, unc_cons, asI_int, asB_bool, asS_string, asSl_sl, asSl_nl, asFn_fn, asP_cp, nrm_sl, nrm_nl, need_true, ct, cf, bd_eq, natD_zero, natD_succ, natD_one, noYl_v, noYl_sl, noYl_nl, noYl_cp, noYl_fn, Bool.and_true, Bool.true_and, Bool.and_self, beqN_self, Bool.not_true, Bool.not_false, Bool.and_false, Bool.false_and, Bool.or_false, Bool.false_or, Bool.or_true, Bool.true_or, List.length_cons, List.length_nil, Nat.zero_add, Nat.reduceAdd]
  rw [c4]
  simp only [obs, rC_c, rA_agg, rT_tup, rP_ptr, rW_own, rS_sb, rF_sb, uncV_cons, uncO_cons, nilV_nil, rO_ob, rN_ob, unc_cons, asI_int, asB_bool, asS_string, asSl_sl, asSl_nl, asFn_fn, asP_cp, nrm_sl, nrm_nl, need_true, ct, cf, bd_eq, natD_zero, natD_succ, natD_one, noYl_v, noYl_sl, noYl_nl, noYl_cp, noYl_fn, Bool.and_true, Bool.true_and, Bool.and_self, beqN_self, Bool.not_true, Bool.not_false, Bool.and_false, Bool.false_and, Bool.or_false, Bool.false_or, Bool.or_true, Bool.true_or, List.length_cons, List.length_nil, Nat.zero_add, Nat.reduceAdd]
  rw [c5]
  simp only [obs, rC_c, rA_agg, rT_tup, rP_ptr, rW_own, rS_sb, rF_sb, uncV_cons, uncO_cons, nilV_nil, rO_ob, rN_ob, unc_cons, asI_int, asB_bool, asS_string, asSl_sl, asSl_nl, asFn_fn, asP_cp, nrm_sl, nrm_nl, need_true, ct, cf, bd_eq, natD_zero, natD_succ, natD_one, noYl_v, noYl_sl, noYl_nl, noYl_cp, noYl_fn, Bool.and_true, Bool.true_and, Bool.and_self, beqN_self, Bool.not_true, Bool.not_false, Bool.and_false, Bool.false_and, Bool.or_false, Bool.false_or, Bool.or_true, Bool.true_or, List.length_cons, List.length_nil, Nat.zero_add, Nat.reduceAdd]
  refine iter_bind_ex (A := Int × List C × List C × (C × Int × Unit) × Unit) (B := Out) (fu := fu) (fun o => ∃ (cs r40 r39 : List C) (lv en : Int) (j : Nat), (List.drop 40 cs = C.v (.int .i64 lv) :: r40 ∧ List.drop 39 cs = C.v (.int .i64 en) :: r39 ∧ 1 ≤ lv ∧ lv ≤ en ∧ en ≤ 100 ∧ cs.length = 41) ∧ o = some ⟨V.agg cs, [.ob ty_synoptickeep_Src 0 [C.sl L.length (ints L), C.v (.int .i64 (j : Nat))]], none⟩)
    (fun j y => ∃ (l1 l2 : List C) (q : Nat), (l1.length = 41 ∧ l2.length = 41 ∧ List.drop 39 l2 = [C.v (.int .i64 en), C.v (.int .i64 lv)]) ∧ y = (((j + 1 : Nat) : Int), l1, l2, (C.sl L.length (ints L), ((q : Nat) : Int), ()), ()))
    (fun z => ∃ (l1 l2 : List C) (q : Nat), (l1.length = 41 ∧ l2.length = 41 ∧ List.drop 39 l2 = [C.v (.int .i64 en), C.v (.int .i64 lv)]) ∧ z = ((12 : Int), l1, l2, (C.sl L.length (ints L), ((q : Nat) : Int), ()), ())) 0 11 ?_ ?_ ?_ (by omega) ?_
  · exact ⟨_, _, j5, ⟨rfl, rfl, rfl⟩, rfl⟩
  · rintro j y hj ⟨l1, l2, q, ⟨h1, h2, h3⟩, rfl⟩
    obtain ⟨w1, q1, x1, _⟩ := sp_Pick fu d L q hL [0, 10, 30, 100, 1000] (by simp)
    obtain ⟨w2, q2, x2, _⟩ := sp_Pick fu d L q1 hL [0, 20, 60, 300] (by simp)
    obtain ⟨w3, q3, x3, _⟩ := sp_Pick fu d L q2 hL [0, 5, 30, 200] (by simp)
    have x1 : cl fu (d + 3) fn_synoptickeep_Src_Pick [V.ptr 1000000 0, V.c (C.sl 5 [C.v (.int .i64 0), C.v (.int .i64 10), C.v (.int .i64 30), C.v (.int .i64 100), C.v (.int .i64 1000)])] [srcO L q] = _ := x1
    have x2 : cl fu (d + 3) fn_synoptickeep_Src_Pick [V.ptr 1000000 0, V.c (C.sl 4 [C.v (.int .i64 0), C.v (.int .i64 20), C.v (.int .i64 60), C.v (.int .i64 300)])] [srcO L q1] = _ := x2
    have x3 : cl fu (d + 3) fn_synoptickeep_Src_Pick [V.ptr 1000000 0, V.c (C.sl 4 [C.v (.int .i64 0), C.v (.int .i64 5), C.v (.int .i64 30), C.v (.int .i64 200)])] [srcO L q2] = _ := x3
    unfold srcO srcC at x1 x2 x3
    have hin : inR ((j + 1 : Nat) : Int) 12 = true := by simp [inR]; omega
    have p1 : ∀ x, (putAt l2 (1 + (j + 1)) [x]).length = 41 := fun x => by rw [len_putAt l2 x (by omega), h2]
    have p2 : ∀ x x', (putAt (putAt l2 (1 + (j + 1)) [x]) (13 + (j + 1)) [x']).length = 41 := fun x x' => by rw [len_putAt _ x' (by rw [p1]; omega), p1]
    refine ⟨_, ?_, l1, putAt (putAt (putAt l2 (1 + (j + 1)) [C.v (.int .i64 w1)]) (13 + (j + 1)) [C.v (.int .i64 w2)]) (26 + (j + 1)) [C.v (.int .i64 w3)], q3, ⟨h1, ?_, ?_⟩, rfl⟩
    · simp (disch := omega) only [obs, rC_c, rA_agg, rT_tup, rP_ptr, rW_own, rS_sb, rF_sb, uncV_cons, uncO_cons, nilV_nil, rO_ob, rN_ob, unc_cons, asI_int, asB_bool, asS_string, asSl_sl, asSl_nl, asFn_fn, asP_cp, nrm_sl, nrm_nl, need_true, ct, cf, bd_eq, natD_zero, natD_succ, natD_one, noYl_v, noYl_sl, noYl_nl, noYl_cp, noYl_fn, Bool.and_true, Bool.true_and, Bool.and_self, beqN_self, Bool.not_true, Bool.not_false, Bool.and_false, Bool.false_and, Bool.or_false, Bool.false_or, Bool.or_true, Bool.true_or, wrap_in, dlt_t, dlt_f, dle_t, dle_f, dgt_t, dgt_f, dge_t, dge_f, ibeq_t, ibeq_f, ibne_t, ibne_f, inR_int, beqN_eq, bleN_le, Int.toNat_natCast, Nat.mul_one, hin, x1, x2, x3, List.length_cons, List.length_nil, Nat.zero_add, Nat.reduceAdd, h2, p1, p2]
      rfl
    · rw [len_putAt _ _ (by rw [p2]; omega), p2]
    · rw [drop_putAt _ _ (by omega) (by rw [p2]; omega), drop_putAt _ _ (by omega) (by rw [p1]; omega), drop_putAt _ _ (by omega) (by omega), h3]
  · rintro y ⟨l1, l2, q, h, rfl⟩
    exact ⟨_, rfl, l1, l2, q, h, rfl⟩
  · rintro z ⟨l1, l2, q, ⟨h1, h2, h3⟩, rfl⟩
    have t1 : List.take 41 l2 = l2 := List.take_of_length_le (by omega)
    have t2 : putAt l1 0 l2 = l2 := by
      unfold PM.putAt
      rw [List.take_zero, List.nil_append, List.drop_eq_nil_of_le (by omega), List.append_nil]
    have h4 : List.drop 40 l2 = [C.v (.int .i64 lv)] := by
      rw [show List.drop 40 l2 = List.drop 1 (List.drop 39 l2) by rw [List.drop_drop], h3]; rfl
    refine ⟨l2, _, _, lv, en, q, ⟨h4, h3, by omega, by omega, by omega, h2⟩, ?_⟩
    simp (disch := omega) only [obs, rC_c, rA_agg, rT_tup, rP_ptr, rW_own, rS_sb, rF_sb, uncV_cons, uncO_cons, nilV_nil, rO_ob, rN_ob, unc_cons, asI_int, asB_bool, asS_string, asSl_sl, asSl_nl, asFn_fn, asP_cp, nrm_sl, nrm_nl, need_true, ct, cf, bd_eq, natD_zero, natD_succ, natD_one, noYl_v, noYl_sl, noYl_nl, noYl_cp, noYl_fn, Bool.and_true, Bool.true_and, Bool.and_self, beqN_self, Bool.not_true, Bool.not_false, Bool.and_false, Bool.false_and, Bool.or_false, Bool.false_or, Bool.or_true, Bool.true_or, wrap_in, dlt_t, dlt_f, dle_t, dle_f, dgt_t, dgt_f, dge_t, dge_f, ibeq_t, ibeq_f, ibne_t, ibne_f, inR_int, beqN_eq, bleN_le, t1, t2, h1, h2, Nat.zero_add]

theorem sp_History (i : Nat) (n : Int) (hn : 0 ≤ n ∧ n ≤ 1000) : ∃ (h1 h2 : C) (cy : List (List Cnt)) (nm : List ByteArray) (j : Nat), (nrm h1 = .sl cy.length (cycs cy) ∧ nrm h2 = .sl nm.length (strs nm) ∧ hist6 cy nm) ∧
    cl fu (d + 5) fn_synopticdata_History [V.ptr 1000000 0, I n] [srcO L i] = some ⟨V.agg [h1, h2], [srcO L j], none⟩ := by
  obtain ⟨v1, j1, c1, b1, b2⟩ := sp_N fu (d + 2) L i hL (n + 1) (by omega)
  obtain ⟨k, rfl⟩ : ∃ k : Nat, v1 = k := ⟨v1.toNat, by omega⟩
  unfold srcO srcC at c1 ⊢
  rw [eq_synopticdata_History]
  simp (disch := omega) only [obs, rC_c, rA_agg, rT_tup, rP_ptr, rW_own, rS_sb, rF_sb, uncV_cons, uncO_cons, nilV_nil, rO_ob, rN_ob, unc_cons, asI_int, asB_bool, asS_string, asSl_sl, asSl_nl, asFn_fn, asP_cp, nrm_sl, nrm_nl, need_true, ct, cf, bd_eq, natD_zero, natD_succ, natD_one, noYl_v, noYl_sl, noYl_nl, noYl_cp, noYl_fn, Bool.and_true, Bool.true_and, Bool.and_self, beqN_self, Bool.not_true, Bool.not_false, Bool.and_false, Bool.false_and, Bool.or_false, Bool.false_or, Bool.or_true, Bool.true_or, wrap_in, dlt_t, dlt_f, dle_t, dle_f, dgt_t, dgt_f, dge_t, dge_f, ibeq_t, ibeq_f, ibne_t, ibne_f, inR_int, beqN_eq, bleN_le, c1, List.length_cons, List.length_nil, Nat.zero_add, Nat.reduceAdd]
  refine iter_bind_ex (A := Int × (C × C × Unit) × (C × C × Unit) × (C × Int × Unit) × Unit) (B := Out) (fu := fu) (fun o => ∃ (h1 h2 : C) (cy : List (List Cnt)) (nm : List ByteArray) (j : Nat), (nrm h1 = .sl cy.length (cycs cy) ∧ nrm h2 = .sl nm.length (strs nm) ∧ hist6 cy nm) ∧ o = some ⟨V.agg [h1, h2], [.ob ty_synoptickeep_Src 0 [C.sl L.length (ints L), C.v (.int .i64 (j : Nat))]], none⟩)
    (fun j y => ∃ (h1 h2 : C) (cy : List (List Cnt)) (nm : List ByteArray) (q : Nat), (nrm h1 = .sl cy.length (cycs cy) ∧ nrm h2 = .sl nm.length (strs nm) ∧ hist6 cy nm) ∧ y = (((k - j : Nat) : Int), (C.nl, C.nl, ()), (h1, h2, ()), (C.sl L.length (ints L), ((q : Nat) : Int), ()), ()))
    (fun z => ∃ (h1 h2 : C) (cy : List (List Cnt)) (nm : List ByteArray) (q : Nat), (nrm h1 = .sl cy.length (cycs cy) ∧ nrm h2 = .sl nm.length (strs nm) ∧ hist6 cy nm) ∧ z = ((0 : Int), (C.nl, C.nl, ()), (h1, h2, ()), (C.sl L.length (ints L), ((q : Nat) : Int), ()), ())) 0 k ?_ ?_ ?_ (by omega) ?_
  · exact ⟨C.nl, C.nl, [], [], j1, ⟨rfl, rfl, by simp, by simp, by simp [in6], by simp [asc6]⟩, rfl⟩
  · rintro j y hj ⟨h1, h2, cy, nm, q, ⟨e1, e2, hh⟩, rfl⟩
    obtain ⟨l, q1, hl, x1⟩ := sp_Cycle fu d hf L hL q
    obtain ⟨cs, r40, r39, lv, en, q2, ⟨k40, k39, u1, u2, u3, _⟩, x2⟩ := sp_Control fu d hf L hL q1
    obtain ⟨nm', m1, m2, x3⟩ := sp_refPush fu d hf e1 e2 hh hl k40 k39 ⟨u1, u2, u3⟩
    unfold srcO srcC at x1 x2
    have hnr : nrm (cyC l) = cyC l := rfl
    have hs : ((k - j : Nat) : Int) - 1 = ((k - (j + 1) : Nat) : Int) := by omega
    refine ⟨_, ?_, C.sl (kept cy l).length (cycs (kept cy l)), C.sl nm'.length (strs nm'), kept cy l, nm', q2, ⟨rfl, rfl, kept_length hh.1, kept_all (P := cyc6) hh.2.1 hl, m1, m2⟩, rfl⟩
    simp (disch := omega) only [obs, rC_c, rA_agg, rT_tup, rP_ptr, rW_own, rS_sb, rF_sb, uncV_cons, uncO_cons, nilV_nil, rO_ob, rN_ob, unc_cons, asI_int, asB_bool, asS_string, asSl_sl, asSl_nl, asFn_fn, asP_cp, nrm_sl, nrm_nl, need_true, ct, cf, bd_eq, natD_zero, natD_succ, natD_one, noYl_v, noYl_sl, noYl_nl, noYl_cp, noYl_fn, Bool.and_true, Bool.true_and, Bool.and_self, beqN_self, Bool.not_true, Bool.not_false, Bool.and_false, Bool.false_and, Bool.or_false, Bool.false_or, Bool.or_true, Bool.true_or, wrap_in, dlt_t, dlt_f, dle_t, dle_f, dgt_t, dgt_f, dge_t, dge_f, ibeq_t, ibeq_f, ibne_t, ibne_f, inR_int, beqN_eq, bleN_le, x1, x2, hnr, x3, List.length_cons, List.length_nil, Nat.zero_add, Nat.reduceAdd, hs]
  · rintro y ⟨h1, h2, cy, nm, q, h, rfl⟩
    refine ⟨_, ?_, h1, h2, cy, nm, q, h, rfl⟩
    rw [Nat.sub_self]
    rfl
  · rintro z ⟨h1, h2, cy, nm, q, h, rfl⟩
    exact ⟨h1, h2, cy, nm, q, h, rfl⟩
end
end Go.Proofs.Ytofalpngdbinbaa
/- Listed; the example of the chapter. -/
namespace Go.Proofs.Ytofalpngdbinbaa
open Go Go.PM

def sA : ByteArray := ⟨#[65, 76, 80, 72, 65]⟩
def cA (t r : Int) : List Cnt := [⟨sA, t, r⟩]
theorem nameOk_A : nameOk sA := ⟨by decide, by decide⟩
theorem cycleOk_A {t r : Int} (h : 0 ≤ t ∧ t ≤ 100000 ∧ 0 ≤ r ∧ r ≤ t) : cycleOk (cA t r) :=
  ⟨by simp [cA], fun c hc => by simp [cA] at hc; subst hc; exact ⟨nameOk_A, ⟨h.1, h.2.1⟩, h.2.2⟩, fun j a b h1 h2 => by simp [cA] at h2⟩
theorem asc_A : asc [sA] := fun j a b h1 h2 => by simp at h2
theorem asc_nil : asc [] := fun j a b h1 h2 => by simp at h2
theorem sortB_one (s : ByteArray) : sortB [s] = [s] := by simp [sortB, byt]
theorem listed_one {nm : List ByteArray} {lv en : Int} {M : List Ent} (h : keys M = [sA]) : listed nm lv en M = bif cond nm lv en M sA then [sA] else [] := by
  unfold listed
  rw [h, sortB_one]
  cases hc : cond nm lv en M sA <;> simp [hc]
theorem hasS_A : hasS [sA] sA = true := by simp [hasS]
theorem hasS_nil (s : ByteArray) : hasS [] s = false := rfl

section
variable (fu d : Nat) (hf : 18446744073709551616 ≤ fu)
include hf
theorem sp_Listed {h1 h2 : C} {cy : List (List Cnt)} {nm : List ByteArray} (e1 : nrm h1 = .sl cy.length (cycs cy)) (e2 : nrm h2 = .sl nm.length (strs nm)) (hok : histOk cy nm) (s : ByteArray) :
    cl fu (d + 13) fn_blacklist_Listed [V.agg [h1, h2], V.c (.v (.string s))] [] = some ⟨B (hasS nm s), [], none⟩ := by
  have hV := sp_Validate fu d hf e1 e2 hok
  have hC := sp_Contains fu (d + 10) hf nm s (by have := hok.2.2.1; omega)
  rw [eq_blacklist_Listed, e2]
  simp (disch := omega) only [obs, rC_c, rA_agg, rT_tup, rP_ptr, rW_own, rS_sb, rF_sb, uncV_cons, uncO_cons, nilV_nil, rO_ob, rN_ob, unc_cons, asI_int, asB_bool, asS_string, asSl_sl, asSl_nl, asFn_fn, asP_cp, nrm_sl, nrm_nl, need_true, ct, cf, bd_eq, natD_zero, natD_succ, natD_one, noYl_v, noYl_sl, noYl_nl, noYl_cp, noYl_fn, Bool.and_true, Bool.true_and, Bool.and_self, beqN_self, Bool.not_true, Bool.not_false, Bool.and_false, Bool.false_and, Bool.or_false, Bool.false_or, Bool.or_true, Bool.true_or, wrap_in, dlt_t, dlt_f, dle_t, dle_f, dgt_t, dgt_f, dge_t, dge_f, ibeq_t, ibeq_f, ibne_t, ibne_f, inR_int, beqN_eq, bleN_le, hV, hC]

/-- Push, its answer named. -/
theorem sp_Push' {h1 h2 : C} {cy cy' : List (List Cnt)} {nm nm' : List ByteArray} (e1 : nrm h1 = .sl cy.length (cycs cy)) (e2 : nrm h2 = .sl nm.length (strs nm)) (hok : histOk cy nm)
    {l : List Cnt} (hl : cycleOk l) {a2 : List C} {lv en : Int} {r40 r39 : List C} (hk40 : List.drop 40 a2 = C.v (.int .i64 lv) :: r40) (hk39 : List.drop 39 a2 = C.v (.int .i64 en) :: r39) (hlv : 1 ≤ lv ∧ lv ≤ en ∧ en ≤ 100)
    (hkp : kept cy l = cy') {M : List Ent} (hM : sumsM cy' nm = M) (hli : listed nm lv en M = nm') (hkeys : (keys M).length ≤ 150) :
    cl fu (d + 14) fn_blacklist_Push [V.agg [h1, h2], V.c (cyC l), V.agg a2] [] = some ⟨V.tup [V.agg [C.sl cy'.length (cycs cy'), C.sl nm'.length (strs nm')], I 0], [], none⟩ := by
  subst hkp hM hli
  exact sp_Push fu d hf e1 e2 hok hl hk40 hk39 hlv hkeys
end

def kA : List C := [C.v (.int .i64 0), C.v (.int .i64 0), C.v (.int .i64 0), C.v (.int .i64 0), C.v (.int .i64 0), C.v (.int .i64 0), C.v (.int .i64 0), C.v (.int .i64 0), C.v (.int .i64 0), C.v (.int .i64 0), C.v (.int .i64 0), C.v (.int .i64 0), C.v (.int .i64 0), C.v (.int .i64 0), C.v (.int .i64 0), C.v (.int .i64 0), C.v (.int .i64 0), C.v (.int .i64 0), C.v (.int .i64 0), C.v (.int .i64 0), C.v (.int .i64 0), C.v (.int .i64 0), C.v (.int .i64 0), C.v (.int .i64 0), C.v (.int .i64 0), C.v (.int .i64 0), C.v (.int .i64 0), C.v (.int .i64 0), C.v (.int .i64 0), C.v (.int .i64 0), C.v (.int .i64 0), C.v (.int .i64 0), C.v (.int .i64 0), C.v (.int .i64 0), C.v (.int .i64 0), C.v (.int .i64 0), C.v (.int .i64 0), C.v (.int .i64 0), C.v (.int .i64 0), C.v (.int .i64 50), C.v (.int .i64 20)]
theorem sums1 : sumsM [cA 5 3] [] = [(sA, 5, 3)] := by rfl
theorem sums2 : sumsM [cA 5 3, cA 5 0] [sA] = [(sA, 10, 3)] := by rfl
theorem sums3 : sumsM [cA 5 3, cA 5 0, cA 5 0] [sA] = [(sA, 15, 3)] := by rfl
theorem sums4 : sumsM [cA 5 3, cA 5 0, cA 5 0, cA 5 0] [sA] = [(sA, 20, 3)] := by rfl
theorem histOk_A {cy : List (List Cnt)} {nm : List ByteArray} (h1 : cy.length ≤ 12) (h2 : ∀ l ∈ cy, cycleOk l) (h3 : nm = [] ∨ nm = [sA]) : histOk cy nm := by
  rcases h3 with rfl | rfl
  · exact ⟨h1, h2, by simp, by simp, asc_nil⟩
  · exact ⟨h1, h2, by simp, by simpa using nameOk_A, asc_A⟩
theorem c53 : cycleOk (cA 5 3) := cycleOk_A (by omega)
theorem c50 : cycleOk (cA 5 0) := cycleOk_A (by omega)

theorem sp_awake (fu d : Nat) (hf : 18446744073709551616 ≤ fu) : cl fu (d + 15) fn_synopticlaw19_awake [] [] = some ⟨B true, [], none⟩ := by
  have p1 := sp_Push' fu d hf (h1 := C.nl) (h2 := C.nl) (cy := []) (nm := []) rfl rfl (histOk_A (by simp) (by simp) (.inl rfl)) c53 (a2 := kA) (lv := 20) (en := 50) rfl rfl (by omega) (cy' := [cA 5 3]) rfl sums1 (nm' := [sA]) (by rw [listed_one rfl]; rfl) (by simp [keys])
  have p2 := sp_Push' fu d hf (h1 := C.sl 1 (cycs [cA 5 3])) (h2 := C.sl 1 (strs [sA])) (cy := [cA 5 3]) (nm := [sA]) rfl rfl (histOk_A (by simp) (by simpa using c53) (.inr rfl)) c50 (a2 := kA) (lv := 20) (en := 50) rfl rfl (by omega) (cy' := [cA 5 3, cA 5 0]) rfl sums2 (nm' := [sA]) (by rw [listed_one rfl]; rfl) (by simp [keys])
  have p3 := sp_Push' fu d hf (h1 := C.sl 2 (cycs [cA 5 3, cA 5 0])) (h2 := C.sl 1 (strs [sA])) (cy := [cA 5 3, cA 5 0]) (nm := [sA]) rfl rfl (histOk_A (by simp) (by simpa using ⟨c53, c50⟩) (.inr rfl)) c50 (a2 := kA) (lv := 20) (en := 50) rfl rfl (by omega) (cy' := [cA 5 3, cA 5 0, cA 5 0]) rfl sums3 (nm' := [sA]) (by rw [listed_one rfl]; rfl) (by simp [keys])
  have p4 := sp_Push' fu d hf (h1 := C.sl 3 (cycs [cA 5 3, cA 5 0, cA 5 0])) (h2 := C.sl 1 (strs [sA])) (cy := [cA 5 3, cA 5 0, cA 5 0]) (nm := [sA]) rfl rfl (histOk_A (by simp) (by simpa using ⟨c53, c50⟩) (.inr rfl)) c50 (a2 := kA) (lv := 20) (en := 50) rfl rfl (by omega) (cy' := [cA 5 3, cA 5 0, cA 5 0, cA 5 0]) rfl sums4 (nm' := []) (by rw [listed_one rfl]; rfl) (by simp [keys])
  have l1 := sp_Listed fu (d + 1) hf (h1 := C.sl 1 (cycs [cA 5 3])) (h2 := C.sl 1 (strs [sA])) (cy := [cA 5 3]) (nm := [sA]) rfl rfl (histOk_A (by simp) (by simpa using c53) (.inr rfl)) sA
  have l3 := sp_Listed fu (d + 1) hf (h1 := C.sl 3 (cycs [cA 5 3, cA 5 0, cA 5 0])) (h2 := C.sl 1 (strs [sA])) (cy := [cA 5 3, cA 5 0, cA 5 0]) (nm := [sA]) rfl rfl (histOk_A (by simp) (by simpa using ⟨c53, c50⟩) (.inr rfl)) sA
  have l4 := sp_Listed fu (d + 1) hf (h1 := C.sl 4 (cycs [cA 5 3, cA 5 0, cA 5 0, cA 5 0])) (h2 := C.sl 0 (strs [])) (cy := [cA 5 3, cA 5 0, cA 5 0, cA 5 0]) (nm := []) rfl rfl (histOk_A (by simp) (by simpa using ⟨c53, c50⟩) (.inl rfl)) sA
  have e53 : cyC (cA 5 3) = C.sl 1 [C.v (.string sA), C.v (.int .i64 5), C.v (.int .i64 3)] := rfl
  have e50 : cyC (cA 5 0) = C.sl 1 [C.v (.string sA), C.v (.int .i64 5), C.v (.int .i64 0)] := rfl
  have eA : (⟨#[65, 76, 80, 72, 65]⟩ : ByteArray) = sA := rfl
  rw [e53] at p1
  rw [e50] at p2 p3 p4
  simp only [List.length_cons, List.length_nil, Nat.zero_add, Nat.reduceAdd] at p1 p2 p3 p4
  unfold kA at p1 p2 p3 p4
  rw [eq_synopticlaw19_awake]
  simp only [eA]
  rw [p1]
  simp (disch := omega) only [obs, rC_c, rA_agg, rT_tup, rP_ptr, rW_own, rS_sb, rF_sb, uncV_cons, uncO_cons, nilV_nil, rO_ob, rN_ob, unc_cons, asI_int, asB_bool, asS_string, asSl_sl, asSl_nl, asFn_fn, asP_cp, nrm_sl, nrm_nl, need_true, ct, cf, bd_eq, natD_zero, natD_succ, natD_one, noYl_v, noYl_sl, noYl_nl, noYl_cp, noYl_fn, Bool.and_true, Bool.true_and, Bool.and_self, beqN_self, Bool.not_true, Bool.not_false, Bool.and_false, Bool.false_and, Bool.or_false, Bool.false_or, Bool.or_true, Bool.true_or, wrap_in, dlt_t, dlt_f, dle_t, dle_f, dgt_t, dgt_f, dge_t, dge_f, ibeq_t, ibeq_f, ibne_t, ibne_f, inR_int, beqN_eq, bleN_le, List.length_cons, List.length_nil, Nat.zero_add, Nat.reduceAdd, l1]
  rw [iter_runx (fun j : Nat => ((0 : Int), (j : Int), ((if j = 0 then C.sl 1 (cycs [cA 5 3]) else if j = 1 then C.sl 2 (cycs [cA 5 3, cA 5 0]) else C.sl 3 (cycs [cA 5 3, cA 5 0, cA 5 0])), C.sl 1 (strs [sA]), ()), ())) 0 ((0 : Int), (2 : Int), (C.sl 3 (cycs [cA 5 3, cA 5 0, cA 5 0]), C.sl 1 (strs [sA]), ()), ()) 2 ?_ ?_ ?_ (by omega)]
  · simp (disch := omega) only [obs, rC_c, rA_agg, rT_tup, rP_ptr, rW_own, rS_sb, rF_sb, uncV_cons, uncO_cons, nilV_nil, rO_ob, rN_ob, unc_cons, asI_int, asB_bool, asS_string, asSl_sl, asSl_nl, asFn_fn, asP_cp, nrm_sl, nrm_nl, need_true, ct, cf, bd_eq, natD_zero, natD_succ, natD_one, noYl_v, noYl_sl, noYl_nl, noYl_cp, noYl_fn, Bool.and_true, Bool.true_and, Bool.and_self, beqN_self, Bool.not_true, Bool.not_false, Bool.and_false, Bool.false_and, Bool.or_false, Bool.false_or, Bool.or_true, Bool.true_or, wrap_in, dlt_t, dlt_f, dle_t, dle_f, dgt_t, dgt_f, dge_t, dge_f, ibeq_t, ibeq_f, ibne_t, ibne_f, inR_int, beqN_eq, bleN_le, List.length_cons, List.length_nil, Nat.zero_add, Nat.reduceAdd, l3, p4, l4, hasS_A, hasS_nil]
  · rfl
  · intro j hj
    have : j = 0 ∨ j = 1 := by omega
    rcases this with rfl | rfl
    · simp (disch := omega) only [obs, rC_c, rA_agg, rT_tup, rP_ptr, rW_own, rS_sb, rF_sb, uncV_cons, uncO_cons, nilV_nil, rO_ob, rN_ob, unc_cons, asI_int, asB_bool, asS_string, asSl_sl, asSl_nl, asFn_fn, asP_cp, nrm_sl, nrm_nl, need_true, ct, cf, bd_eq, natD_zero, natD_succ, natD_one, noYl_v, noYl_sl, noYl_nl, noYl_cp, noYl_fn, Bool.and_true, Bool.true_and, Bool.and_self, beqN_self, Bool.not_true, Bool.not_false, Bool.and_false, Bool.false_and, Bool.or_false, Bool.false_or, Bool.or_true, Bool.true_or, wrap_in, dlt_t, dlt_f, dle_t, dle_f, dgt_t, dgt_f, dge_t, dge_f, ibeq_t, ibeq_f, ibne_t, ibne_f, inR_int, beqN_eq, bleN_le, List.length_cons, List.length_nil, Nat.zero_add, Nat.reduceAdd, p2, if_true]
      rfl
    · simp (disch := omega) only [obs, rC_c, rA_agg, rT_tup, rP_ptr, rW_own, rS_sb, rF_sb, uncV_cons, uncO_cons, nilV_nil, rO_ob, rN_ob, unc_cons, asI_int, asB_bool, asS_string, asSl_sl, asSl_nl, asFn_fn, asP_cp, nrm_sl, nrm_nl, need_true, ct, cf, bd_eq, natD_zero, natD_succ, natD_one, noYl_v, noYl_sl, noYl_nl, noYl_cp, noYl_fn, Bool.and_true, Bool.true_and, Bool.and_self, beqN_self, Bool.not_true, Bool.not_false, Bool.and_false, Bool.false_and, Bool.or_false, Bool.false_or, Bool.or_true, Bool.true_or, wrap_in, dlt_t, dlt_f, dle_t, dle_f, dgt_t, dgt_f, dge_t, dge_f, ibeq_t, ibeq_f, ibne_t, ibne_f, inR_int, beqN_eq, bleN_le, List.length_cons, List.length_nil, Nat.zero_add, Nat.reduceAdd, p3, if_true, if_false, Nat.one_ne_zero]
      rfl
  · rfl
end Go.Proofs.Ytofalpngdbinbaa
