/- Sorted, each once: the plain laws. -/
import Derived.Test.YtjdafdibghfdhaaDoorPQb
set_option linter.unusedVariables false
set_option linter.unusedSimpArgs false
namespace Go.PM
open Go Go.Lib

theorem mem_sortI {l : List Int} {x : Int} : x ∈ sortI l ↔ x ∈ l := by simp [sortI, List.mem_mergeSort]
theorem sorted_sortI (l : List Int) : (sortI l).Pairwise (· ≤ ·) := by
  have h := List.pairwise_mergeSort (le := fun x y : Int => decide (x ≤ y)) (by intro a b c; simp; omega) (by intro a b; simp; omega) l
  exact h.imp fun h => by simpa using h

theorem mem_compactUpTo (d : Array Int) (x : Int) : ∀ m, x ∈ compactUpTo d m ↔ ∃ j, j < m ∧ d[j]! = x
  | 0 => by simp [compactUpTo]
  | m + 1 => by
    rw [compactUpTo_succ, List.mem_append, mem_compactUpTo d x m]
    constructor
    · rintro (⟨j, hj, h⟩ | h)
      · exact ⟨j, by omega, h⟩
      · split at h
        · simp at h; exact ⟨m, by omega, h.symm⟩
        · cases h
    · rintro ⟨j, hj, h⟩
      by_cases hjm : j < m
      · exact .inl ⟨j, hjm, h⟩
      · obtain rfl : j = m := by omega
        cases hk : keeps d j with
        | true => exact .inr (by simp [h])
        | false =>
          simp only [keeps, decide_eq_false_iff_not] at hk
          by_cases h0 : j = 0
          · exact absurd (.inl h0) hk
          · refine .inl ⟨j - 1, by omega, ?_⟩
            rw [← h]
            exact Decidable.byContradiction fun hne => hk (.inr (Ne.symm hne))
theorem compactUpTo_lt (d : Array Int) (n : Nat) (hs : ∀ i j, i < j → j < n → d[i]! ≤ d[j]!) : ∀ m, m ≤ n → (compactUpTo d m).Pairwise (· < ·)
  | 0, _ => by simp [compactUpTo]
  | m + 1, hm => by
    have ih := compactUpTo_lt d n hs m (by omega)
    rw [compactUpTo_succ]
    split
    · rename_i hk
      rw [List.pairwise_append]
      refine ⟨ih, by simp, fun x hx y hy => ?_⟩
      simp at hy
      subst hy
      obtain ⟨j, hj, rfl⟩ := (mem_compactUpTo d x m).1 hx
      simp only [keeps, decide_eq_true_eq] at hk
      have h1 : d[m - 1]! ≤ d[m]! := hs _ _ (by omega) (by omega)
      have h2 : d[m]! ≠ d[m - 1]! := hk.resolve_left (by omega)
      by_cases e : j = m - 1
      · subst e; omega
      · have := hs j (m - 1) (by omega) (by omega); omega
    · simpa using ih
theorem get_list (l : List Int) (i : Nat) (h : i < l.length) : l.toArray[i]! = l[i] := by simp [h]
theorem mem_compactI {l : List Int} {x : Int} : x ∈ compactI l ↔ x ∈ l := by
  unfold compactI Lib.compact
  rw [mem_compactUpTo]
  constructor
  · rintro ⟨j, hj, h⟩
    rw [get_list l j hj] at h
    rw [← h]; exact List.getElem_mem hj
  · intro h
    obtain ⟨j, hj, e⟩ := List.mem_iff_getElem.1 h
    exact ⟨j, hj, by rw [get_list l j hj]; exact e⟩
theorem compactI_lt {l : List Int} (h : l.Pairwise (· ≤ ·)) : (compactI l).Pairwise (· < ·) := by
  refine compactUpTo_lt _ l.length (fun i j hij hj => ?_) _ (Nat.le_refl _)
  rw [get_list l i (by omega), get_list l j hj]
  exact List.pairwise_iff_getElem.1 h i j (by omega) hj hij
theorem compactI_length (l : List Int) : (compactI l).length ≤ l.length := by
  unfold compactI Lib.compact compactUpTo
  rw [List.length_map]
  have := List.length_filter_le (keeps l.toArray) (List.range l.length)
  simpa using this
/-- Each once, ascending. -/
def setI (l : List Int) : List Int := compactI (sortI l)
theorem mem_setI {l : List Int} {x : Int} : x ∈ setI l ↔ x ∈ l := by unfold setI; rw [mem_compactI, mem_sortI]
theorem setI_lt (l : List Int) : (setI l).Pairwise (· < ·) := compactI_lt (sorted_sortI l)
theorem setI_length (l : List Int) : (setI l).length ≤ l.length := by
  have := compactI_length (sortI l); rw [sortI_length] at this; exact this
theorem setI_nil {l : List Int} (h : l = []) : setI l = [] := by subst h; exact List.eq_nil_of_length_eq_zero (by have := setI_length []; simpa using this)
/-- Two ascending lists of the same elements. -/
theorem asc_ext : ∀ {a b : List Int}, a.Pairwise (· < ·) → b.Pairwise (· < ·) → (∀ x, x ∈ a ↔ x ∈ b) → a = b
  | [], [], _, _, _ => rfl
  | [], y :: b, _, _, h => by have := (h y).2 (by simp); cases this
  | x :: a, [], _, _, h => by have := (h x).1 (by simp); cases this
  | x :: a, y :: b, ha, hb, h => by
    rw [List.pairwise_cons] at ha hb
    have hxy : x = y := by
      have h1 := (h x).1 (by simp)
      have h2 := (h y).2 (by simp)
      rcases List.mem_cons.1 h1 with h1 | h1
      · exact h1
      · rcases List.mem_cons.1 h2 with h2 | h2
        · exact h2.symm
        · have := hb.1 x h1; have := ha.1 y h2; omega
    subst hxy
    congr 1
    refine asc_ext ha.2 hb.2 fun z => ?_
    constructor
    · intro hz
      have := (h z).1 (by simp [hz])
      rcases List.mem_cons.1 this with e | e
      · have := ha.1 z hz; omega
      · exact e
    · intro hz
      have := (h z).2 (by simp [hz])
      rcases List.mem_cons.1 this with e | e
      · have := hb.1 z hz; omega
      · exact e
end Go.PM
