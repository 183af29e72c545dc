/- The pure machine: slices that are made, function values, stores. -/
import Derived.Test.YtepjbmlhfhahcaaPMj
set_option linter.unusedVariables false
set_option linter.unusedSimpArgs false
namespace Go.PM
open Go

variable {P : Program}

section
variable {A : Fr} {E : Env} {l : Loc} {pend : Nat → Prop} {R : Type} {k : V → Loc → List Nat → Option R} {r : R} {o : Oper} {ρ : Operand → Value}

theorem reps_length (n : Nat) (zs : List C) : (reps n zs).length = n * zs.length := by simp [reps]

theorem reps_get (zs : List C) : ∀ (n j : Nat) (c : C), (reps n zs)[j]? = some c → zs[j % zs.length]? = some c
  | 0, j, c, h => by simp [reps] at h
  | n + 1, j, c, h => by
    have e : reps (n + 1) zs = zs ++ reps n zs := by simp [reps, List.replicate_succ]
    rw [e, List.getElem?_append] at h
    split at h
    · rename_i hlt
      rw [Nat.mod_eq_of_lt hlt]; exact h
    · rename_i hge
      have := reps_get zs n (j - zs.length) c h
      rwa [Nat.mod_eq_sub_mod (by omega)]

theorem reps_rcs {w : World} {Pr : Nat → Nat → Prop} {zs : List C} {zero : Array Value} (h : RCs w Pr zs zero.toList) (n : Nat) (hn : n ≠ 0 ∨ True) :
    RCs w Pr (reps n zs) ((Array.range (n * zs.length)).map (zero[· % zero.size]!)).toList := by
  have hs : zero.size = zs.length := by have := h.len; simpa using this
  refine ⟨by simp [reps_length], fun j c u hc hu => ?_⟩
  have h1 := reps_get zs n j c hc
  have hlt : j % zs.length < zs.length := (List.getElem?_eq_some_iff.1 h1).1
  simp only [Array.toList_map, List.getElem?_map, Array.toList_range] at hu
  cases hj : (List.range (n * zs.length))[j]? with
  | none => rw [hj] at hu; cases hu
  | some i =>
    rw [hj] at hu
    have hi : i = j := by
      have := List.getElem?_eq_some_iff.1 hj
      obtain ⟨_, e⟩ := this
      simpa using e.symm
    subst hi
    injection hu with hu
    subst hu
    refine h.2 _ c _ h1 ?_
    rw [hs]
    have hlt' : i % zs.length < zero.size := by omega
    simp [hlt']

theorem rel_map {xs : List Operand} {e : Operand → V} (hop : ∀ y ∈ xs, RV P E l (e y) (ρ y)) : ∀ (j : Nat) (x : V) (u : Value), (xs.map e)[j]? = some x → (xs.map ρ)[j]? = some u → RV P E l x u := by
  intro j x u hx hu
  rw [List.getElem?_map] at hx hu
  cases hj : xs[j]? with
  | none => rw [hj] at hx; cases hx
  | some y =>
    rw [hj] at hx hu
    injection hx with hx; injection hu with hu; subst hx hu
    exact hop y (List.mem_of_getElem? hj)

theorem op_buildSlice (hG : Good P A E l pend) {t : TypeId} {n d : Nat} {parts : Array (Nat × Operand)} {strict own : Bool} (ho : o.op = .buildSlice t n parts) (hd : ¬ pend d) {e : Operand → V} (hop : ∀ p ∈ parts.toList, RV P E l (e p.2) (ρ p.2))
    (h0 : buildSliceK P l k strict own t n d (parts.toList.map (·.1)) (parts.toList.map fun p => e p.2) = some r) : Sound P A E l pend ((execOp ρ o).run P E.w) k r := by
  have hrel : ∀ (j : Nat) (x : V) (u : Value), (parts.toList.map fun p => e p.2)[j]? = some x → (parts.toList.map fun p => ρ p.2)[j]? = some u → RV P E l x u := by
    intro j x u hx hu
    rw [List.getElem?_map] at hx hu
    cases hj : parts.toList[j]? with
    | none => rw [hj] at hx; cases hx
    | some y =>
      rw [hj] at hx hu
      injection hx with hx; injection hu with hu; subst hx hu
      exact hop y (List.mem_of_getElem? hj)
  unfold buildSliceK at h0
  split at h0
  case h_2 => cases h0
  case h_1 el hT =>
    split at h0
    case h_2 => cases h0
    case h_1 zs hz =>
      obtain ⟨ps, l1, E1, hk, hG1, hM, hl, hp, _⟩ := purL_sound (us := parts.toList.map fun p => ρ p.2) hG (by simp) hrel h0
      obtain ⟨i, z, hi, hiz, hrun, hlen, hrc⟩ := zeroCs_run hz E.w
      have hips : (parts.toList.map fun p => (p.1, ρ p.2)).map (·.1) = parts.toList.map (·.1) := by simp
      rw [← hips] at hk
      have hbase := reps_rcs (hrc E1.w E1.Pr) n (.inr trivial)
      obtain ⟨cs, cells', hk', hf, hc, hfs⟩ := fill_sound (w := E1.w) (Pr := E1.Pr) (ips := parts.toList.map fun p => (p.1, ρ p.2)) (by simpa using hl) (fun j p q hp' hq => by
        refine hp j p q.2 hp' ?_
        rw [List.getElem?_map] at hq ⊢
        cases hj : parts.toList[j]? with
        | none => rw [hj] at hq; cases hq
        | some y => rw [hj] at hq; injection hq with hq; subst hq; rfl) hbase hk
      obtain ⟨hb, hk2⟩ := need_some hk'
      rw [Bool.and_eq_true] at hb
      have hsz : szOf P el = i.size := szOf_info hi
      have hs0 : i.size ≠ 0 := by intro e; rw [hsz, e] at hb; cases hb.2
      have hle : n * i.size ≤ 16777216 := by have := Nat.le_of_ble_eq_true hb.1; rwa [hsz] at this
      rw [hlen, hsz] at hf
      have hrun2 : (execOp ρ o).run P E.w = .ok (.value (.slice (some ⟨E.w.heap.size, 0, none⟩) n n)) (E.w.alloc (.cells cells' el)) := by
        have hnot : ¬ (n * i.size > 2 ^ 24) := by omega
        simp only [execOp, ho, Instr.buildSlice]
        rw [Sem.run_bind, Sem.run_bind, run_underlying hT]
        simp only [Result.andThen_ok, Sem.run_bind, run_sizeOf hi]
        rw [if_neg hnot]
        by_cases h : n * i.size = 0
        · rw [if_pos h]
          have hb0 : (Array.range (n * i.size)).map ((#[] : Array Value)[· % (#[] : Array Value).size]!) = (Array.range (n * i.size)).map (z.cells[· % z.cells.size]!) := by simp [h]
          simp only [Sem.run_bind, Sem.run_pure, Result.andThen_ok]
          rw [hb0]
          simp only [Array.toList_map]
          rw [hf]
          simp [newRow]
        · rw [if_neg h]
          simp only [Sem.run_bind, Sem.run_pure, Result.andThen_ok, hrun]
          simp only [Array.toList_map]
          rw [hf]
          simp [newRow]
      have hcl : cells'.size = n * i.size := by
        rw [hfs]; simp [hlen]
      rw [hrun2]
      split at hk2
      · refine ⟨_, _, _, hk2, Up.of_mild hM ?_⟩
        rw [← hM.w]
        refine up_create hG1 hd (.inr rfl) (Nat.zero_le _) (by have := hc.len; simp at this; omega) (by rw [List.take_of_length_le (by have := hc.len; omega)]; exact hc) (.own (g := E1.w.heap.size) (cap := n) (t := el) (fz := 0) (cs := cs) (by simp [Env.new, Env.kill]) (by rw [put_same]; rfl) (Nat.le_refl _) ?_ ?_)
        · unfold maxLen
          have : n ≤ n * i.size := Nat.le_mul_of_pos_right n (by omega)
          omega
        · rw [hsz]; simp [Env.new, hcl]
      · cases hk2
      · refine ⟨_, _, _, hk2, Up.of_mild hM ?_⟩
        rw [← hM.w]
        refine up_fix hG1 cells' el (.c ?_)
        obtain ⟨us, q1, q2⟩ := (fix_at hG1 hc).fn (fun j _ => .inr rfl)
        refine .sl (Nat.le_refl _) ?_ q1 q2
        unfold maxLen
        have : n ≤ n * i.size := Nat.le_mul_of_pos_right n (by omega)
        omega

end
end Go.PM
