/- What checking the readings of a report comes to. -/
import Derived.Test.YtjdafdibghfdhaaDoorLa
set_option linter.unusedVariables false
set_option linter.unusedSimpArgs false
namespace Go.Proofs.YtjdafdibghfdhaaDoor
open Go Go.PM

theorem cl_Sort (fu d : Nat) (args : List V) (objs : List PM.Obj) : cl fu (d + 1) fn_slices_Sort_sint_int args objs = sortP ty_int args objs := by kernel_rfl
theorem cl_Compact (fu d : Nat) (args : List V) (objs : List PM.Obj) : cl fu (d + 1) fn_slices_Compact_sint_int args objs = compactP ty_int args objs := by kernel_rfl
theorem sp_Sort (fu d : Nat) (l : List Int) (h : l.length ≤ 1000000000) : cl fu (d + 1) fn_slices_Sort_sint_int [V.own 1000000 0 l.length] [.sb ty_int 0 (ints l)] = some ⟨V.tup [], [.sb ty_int 0 (ints (sortI l))], none⟩ := by
  rw [cl_Sort, sortP, wholeI_of (by omega)]; rfl
theorem sp_Compact (fu d : Nat) (l : List Int) (h : l.length ≤ 1000000000) : cl fu (d + 1) fn_slices_Compact_sint_int [V.own 1000000 0 l.length] [.sb ty_int 0 (ints l)] = some ⟨V.c (C.sl (compactI l).length (ints (compactI l))), [.sb ty_int (compactI l).length (ints (compactI l ++ List.replicate (l.length - (compactI l).length) 0))], none⟩ := by
  rw [cl_Compact, compactP, wholeI_of (by omega)]
  simp only [obs, bleN_le (compactI_length l), need_true]

/-- Sorted, each once, handed back. -/
theorem sp_tail (fu d : Nat) (l : List Int) (h : l.length ≤ 1000000000) (n : Nat) (cs : List C) (hn : n = l.length) (hcs : cs = ints l) :
    ((cl fu (d + 1) fn_slices_Sort_sint_int [V.own 1000000 0 n] [.sb ty_int 0 cs]).bind fun out =>
              uncO out.objs fun o os =>
              rS o ty_int 0 fun cs2 =>
              need (Nat.beq cs2.length cs.length) <|
              (cl fu (d + 1) fn_slices_Compact_sint_int [V.own 1000000 0 n] [.sb ty_int 0 cs2]).bind fun out6 =>
              uncO out6.objs fun o1 os1 =>
              rF o1 ty_int fun fz cs1 =>
              need (Nat.beq cs1.length cs2.length) <|
              rC out6.r fun c11 =>
              (some ⟨V.c c11, [], none⟩ : Option Out)) = some ⟨V.c (C.sl (setI l).length (ints (setI l))), [], none⟩ := by
  subst hn hcs
  rw [sp_Sort fu d l h]
  simp only [obs, uncO_cons, rS_sb, beqN_self, Bool.and_self, need_true, ik_length, sortI_length]
  have h2 := sp_Compact fu d (sortI l) (by simpa using h)
  have h3 := compactI_length (sortI l)
  rw [sortI_length] at h2 h3
  rw [h2]
  simp only [obs, uncO_cons, rF_sb, beqN_self, ik_length, List.length_append, List.length_replicate, bleN_le (show (compactI (sortI l)).length ≤ (compactI (sortI l)).length + (l.length - (compactI (sortI l)).length) by omega), Bool.and_self, need_true, beqN_eq (show (compactI (sortI l)).length + (l.length - (compactI (sortI l)).length) = l.length by omega), rC_c]
  rfl

/-- Whether a value was found that can be compared. -/
def fl (x : List (Int × Int)) (c : Int) : Bool := match findR x c with | some v => decide (v ≥ -100000) && decide (v ≤ 100000) | none => false
def fv (x : List (Int × Int)) (c : Int) : Int := (findR x c).getD 0
theorem fl_bound {x : List (Int × Int)} {c : Int} (h : fl x c = true) : -100000 ≤ fv x c ∧ fv x c ≤ 100000 := by
  unfold fl at h
  unfold fv
  split at h
  · rename_i v hv
    rw [hv]
    simp only [Bool.and_eq_true, decide_eq_true_eq] at h
    exact ⟨h.1, h.2⟩
  · cases h

theorem sp_IndexFunc (fu d : Nat) (hf : 18446744073709551616 ≤ fu) (x : List (Int × Int)) (c : Int) (hn : x.length ≤ 1000000000000) :
    cl fu (d + 2) fn_slices_IndexFunc_sapi_Reading_api_Reading [V.c (C.sl x.length (prs x)), V.c (C.fn fn_element_Find_1 [C.cp [C.v (.int .i64 c)]])] [] = some ⟨I (if x.any (fun r => r.1 == c) then (x.findIdx (fun r => r.1 == c) : Int) else -1), [], none⟩ := by
  rw [eq1_slices_IndexFunc_sapi_Reading_api_Reading]
  have step : ∀ j (hj : j < x.length), (bif decide ((j : Int) < (x.length : Int)) then need (inR (j : Int) x.length) <| unc (List.drop (((j : Int).toNat) * 2) (prs x)) fun cc r => asI .i64 cc fun i => unc r fun c1 _ => asI .i64 c1 fun i1 => (cl fu (d + 1) fn_element_Find_1 [V.agg ([C.v (.int .i64 i), C.v (.int .i64 i1)]), V.c (C.cp [C.v (.int .i64 c)])] []).bind fun out => rC out.r fun c2 => asB c2 fun b => bif b then some (2, ((j : Int), (j : Int), ())) else some (0, ((0 : Int), IntKind.i64.wrap ((j : Int) + 1), ())) else some (1, ((0 : Int), (j : Int), ()))) = bif x[j].1 == c then some (2, ((j : Int), (j : Int), ())) else some (0, ((0 : Int), ((j + 1 : Nat) : Int), ())) := by
    intro j hj
    simp only [lt_yes (show (j : Int) < (x.length : Int) by omega), ct, inR_nat hj, need_true, Int.toNat_natCast, unc_prs hj, unc_cons, asI_int, eq_element_Find_1, obs, rC_c, asB_bool]
    rw [IntWalk.i64_in ((j : Int) + 1) ⟨by omega, by omega⟩]
    rfl
  have hle : x.findIdx (fun r => r.1 == c) ≤ x.length := List.findIdx_le_length
  by_cases ha : x.any (fun r => r.1 == c) = true
  · have hlt : x.findIdx (fun r => r.1 == c) < x.length := by
      rw [List.findIdx_lt_length]
      simpa using ha
    rw [show ((0 : Int), (0 : Int), ()) = (fun j : Nat => ((0 : Int), (j : Int), ())) 0 from rfl, iter_run (fun j : Nat => ((0 : Int), (j : Int), ())) 1 ((x.findIdx (fun r => r.1 == c) : Int), (x.findIdx (fun r => r.1 == c) : Int), ()) (x.findIdx (fun r => r.1 == c)) 0 fu ?_ ?_ (by omega), if_pos ha]
    · rfl
    · intro j _ hj
      have hj : j < x.findIdx (fun r => r.1 == c) := by omega
      have hq := List.not_of_lt_findIdx hj
      refine (step j (by omega)).trans ?_
      have hq : (x[j].1 == c) = false := by simpa using hq
      rw [hq]; rfl
    · simp only [Nat.zero_add]
      refine (step _ hlt).trans ?_
      have : (x[x.findIdx (fun r => r.1 == c)].1 == c) = true := List.findIdx_getElem (p := fun r : Int × Int => r.1 == c) (w := hlt)
      rw [this]
      rfl
  · have hno : ∀ r ∈ x, (r.1 == c) = false := fun r hr => by
      cases h : r.1 == c
      · rfl
      · exact absurd (List.any_eq_true.2 ⟨r, hr, h⟩) ha
    rw [show ((0 : Int), (0 : Int), ()) = (fun j : Nat => ((0 : Int), (j : Int), ())) 0 from rfl, iter_run (fun j : Nat => ((0 : Int), (j : Int), ())) 0 (0, (x.length : Int), ()) x.length 0 fu ?_ ?_ (by omega), if_neg ha]
    · rfl
    · intro j _ hj
      have hj : j < x.length := by omega
      refine (step j hj).trans ?_
      rw [hno _ (List.getElem_mem hj)]
      rfl
    · simp

theorem findR_idx (x : List (Int × Int)) (c : Int) : (x.any (fun r => r.1 == c) = true → ∃ h : x.findIdx (fun r => r.1 == c) < x.length, findR x c = some (x[x.findIdx (fun r => r.1 == c)]'h).2) ∧ (x.any (fun r => r.1 == c) = false → findR x c = none) := by
  constructor
  · intro ha
    have hlt : x.findIdx (fun r => r.1 == c) < x.length := by
      rw [List.findIdx_lt_length]
      simpa using ha
    refine ⟨hlt, ?_⟩
    have : x.find? (fun r => r.1 == c) = some x[x.findIdx (fun r => r.1 == c)] := by
      rw [List.find?_eq_some_iff_getElem]
      exact ⟨List.findIdx_getElem (p := fun r : Int × Int => r.1 == c) (w := hlt), _, hlt, rfl, fun j hj => by simpa using List.not_of_lt_findIdx hj⟩
    unfold findR
    rw [this]; rfl
  · intro ha
    have hno : ∀ r ∈ x, (r.1 == c) = false := fun r hr => by
      cases h : r.1 == c
      · rfl
      · rw [List.any_eq_true.2 ⟨r, hr, h⟩] at ha; cases ha
    have : x.find? (fun r => r.1 == c) = none := by
      rw [List.find?_eq_none]
      intro r hr
      rw [hno r hr]; simp
    unfold findR
    rw [this]; rfl

theorem sp_Find (fu d : Nat) (hf : 18446744073709551616 ≤ fu) (x : List (Int × Int)) (c : Int) (hn : x.length ≤ 1000000000000) :
    cl fu (d + 3) fn_element_Find [V.c (C.sl x.length (prs x)), I c] [] = some ⟨V.tup [I ((findR x c).getD 0), B (findR x c).isSome], [], none⟩ := by
  rw [eq_element_Find, sp_IndexFunc fu d hf x c hn]
  obtain ⟨h1, h2⟩ := findR_idx x c
  by_cases ha : x.any (fun r => r.1 == c) = true
  · obtain ⟨hlt, he⟩ := h1 ha
    rw [he, if_pos ha]
    simp only [obs, rC_c, asI_int, decide_eq_false (show ¬ ((x.findIdx (fun r => r.1 == c) : Nat) : Int) < 0 by omega), cf, inR_nat hlt, need_true, Int.toNat_natCast]
    rw [prs_drop, List.drop_eq_getElem_cons hlt]
    simp only [prs, List.drop_succ_cons, List.drop_zero, unc_cons, asI_int]
    rfl
  · rw [h2 (by simp only [Bool.not_eq_true] at ha; exact ha), if_neg ha]
    rfl

theorem sp_find (fu d : Nat) (hf : 18446744073709551616 ≤ fu) (x : List (Int × Int)) (c : Int) (hn : x.length ≤ 1000000000000) :
    cl fu (d + 4) fn_limits_find [V.c (C.sl x.length (prs x)), I c] [] = some ⟨V.tup [I (fv x c), B (fl x c)], [], none⟩ := by
  rw [eq_limits_find, sp_Find fu d hf x c hn]
  simp only [obs, rT_tup, uncV_cons, rC_c, asI_int, asB_bool, nilV_nil]
  unfold fv fl
  cases findR x c with
  | none => rfl
  | some v =>
    simp only [Option.getD_some, Option.isSome_some, ct]
    cases h : decide (v ≥ -100000) <;> simp [h]

def grossL (x : List (Int × Int)) : List Int := (x.filter fun r => !grossB r.1 r.2).map (·.1)
def wetB (x : List (Int × Int)) : Bool := fl x 2 && fl x 3 && decide (fv x 3 > fv x 2)
def stormB (x : List (Int × Int)) : Bool := fl x 4 && fl x 5 && decide (fv x 4 * fv x 4 + fv x 5 * fv x 5 > 810000)
/-- The elements that are rejected. -/
def chk (x : List (Int × Int)) : List Int := setI (grossL x ++ (if wetB x then [2, 3] else []) ++ (if stormB x then [4, 5] else []))
theorem grossL_length (x : List (Int × Int)) : (grossL x).length ≤ x.length := by
  unfold grossL
  rw [List.length_map]
  exact List.length_filter_le _ _
theorem grossL_take (x : List (Int × Int)) (j : Nat) (hj : j < x.length) : grossL (x.take (j + 1)) = grossL (x.take j) ++ if grossB x[j].1 x[j].2 then [] else [x[j].1] := by
  unfold grossL
  rw [List.take_succ_eq_append_getElem hj, List.filter_append, List.map_append]
  congr 1
  cases h : grossB x[j].1 x[j].2 <;> simp [h]
theorem snoc2 (l : List Int) (a b : Int) : ints l ++ [C.v (.int .i64 a), C.v (.int .i64 b)] = ints (l ++ [a, b]) := by simp [ik]

theorem sq_bound {a b : Int} (ha : -100000 ≤ a ∧ a ≤ 100000) (hb : -100000 ≤ b ∧ b ≤ 100000) : (0 ≤ a * a ∧ a * a ≤ 10000000000) ∧ (0 ≤ b * b ∧ b * b ≤ 10000000000) := by
  have h : ∀ x : Int, -100000 ≤ x ∧ x ≤ 100000 → 0 ≤ x * x ∧ x * x ≤ 10000000000 := by
    intro x hx
    rw [← Int.natAbs_mul_self' x]
    have : x.natAbs ≤ 100000 := by omega
    have := Nat.mul_le_mul this this
    omega
  exact ⟨h a ha, h b hb⟩

end Go.Proofs.YtjdafdibghfdhaaDoor
