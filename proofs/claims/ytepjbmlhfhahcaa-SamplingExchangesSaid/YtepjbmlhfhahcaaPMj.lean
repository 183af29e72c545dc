/- The pure machine: operations that make memory, continued. -/
import Derived.Test.YtepjbmlhfhahcaaPMi
set_option linter.unusedVariables false
set_option linter.unusedSimpArgs false
namespace Go.PM
open Go

variable {P : Program}

section
variable {A : Fr} {E : Env} {l : Loc} {pend : Nat → Prop} {R : Type} {k : V → Loc → List Nat → Option R} {r : R} {o : Oper} {ρ : Operand → Value}

theorem kill_at (s : Nat) (l : Loc) : Loc.kill s l s = .dead := by simp [Loc.kill]

theorem kill_ref (s : Nat) (l : Loc) (s' : Nat) (t : TypeId) (x : V) (h : Loc.kill s l s' = .rf t x) : x.at s = false := by
  rcases kill_cases s l s' with hk | ⟨hk, _, hr⟩
  · rw [hk] at h; cases h
  · rw [hk] at h; exact hr t x h

/-- A new object at a site of its own. -/
theorem up_create (hG : Good P A E l pend) {d : Nat} (hd : ¬ pend d) {cur : Array Value} {t : TypeId} {cs : List C} {fz : Nat} {ob : Obj} (ho : ob = .ob t fz cs ∨ ob = .sb t fz cs) (hfz : fz ≤ cs.length)
    (hc : cs.length ≤ cur.size) (hr : RCs E.w E.Pr cs (cur.toList.take cs.length)) {x : V} {u : Value} (hx : RV P ((E.kill l d).new d cur t) ((l.kill d).put d ob) x u) :
    Up P A E l pend x ((l.kill d).put d ob) [d] u (E.w.alloc (.cells cur t)) := by
  have hG1 := hG.kill hd
  have hG2 := hG1.new (s := d) (pend' := pend) (.inl ⟨kill_at d l, fun _ => Iff.rfl⟩) (cur := cur) (t := t) (cs := cs) ho hfz hc hr (kill_ref d l)
  refine ⟨_, rfl, ⟨hG2, rfl⟩, hx, fun y v hy hk => ?_⟩
  have hy1 : RV P (E.kill l d) (Loc.kill d l) y v := hy.mono0 (E' := E.kill l d) (Held.refl E.w E.Pr) fun s => Keeps1.kill E l d s
  exact hy1.mono (fun s => s = d) (held_alloc _ _ _ fun b k hp => (hG.prot b k hp).1) (fun s hs => Keeps1.new hG1 d cur t ob hs) (fun s hs => by subst hs; exact hk s (by simp))

theorem Up.of_mild {E1 : Env} {l1 : Loc} (hM : Mild E E1 l l1) {x : V} {l' : Loc} {ks : List Nat} {u : Value} {w' : World} (h : Up P A E1 l1 pend x l' ks u w') : Up P A E l pend x l' ks u w' := by
  obtain ⟨E', h1, h2, h3, h4⟩ := h
  exact ⟨E', h1, ⟨h2.1, h2.2.trans hM.D⟩, h3, fun y v hy hk => h4 y v (hM.rv hy) hk⟩

/-- A new block that is never written. -/
theorem up_fix (hG : Good P A E l pend) (cur : Array Value) (t : TypeId) {x : V} {u : Value} (hx : RV P (E.fix cur t) l x u) : Up P A E l pend x l [] u (E.w.alloc (.cells cur t)) :=
  ⟨_, rfl, ⟨hG.fix cur t, rfl⟩, hx, fun _ _ hy _ => hy.mono0 (held_fix hG cur t) fun s => Keeps1.fix E l cur t s⟩

theorem fix_at (hG : Good P A E l pend) {cur : Array Value} {t : TypeId} {cs : List C} (h : RCs E.w E.Pr cs cur.toList) : At (E.fix cur t).w (E.fix cur t).Pr E.w.heap.size 0 cs := by
  intro j c hj
  have hlt : j < cur.toList.length := by rw [h.len]; exact (List.getElem?_eq_some_iff.1 hj).1
  have hg : cur.toList[j]? = some cur.toList[j] := List.getElem?_eq_getElem hlt
  refine ⟨cur.toList[j], ?_, (h.2 j c _ hj hg).held (held_fix hG cur t)⟩
  have := cell_of_row (E.w.alloc (.cells cur t)) E.w.heap.size (0 + j) cur t (0, 0) (heap_alloc_new _ _)
  rw [Nat.zero_add] at this ⊢
  show (E.w.alloc (.cells cur t)).cell? _ = _
  rw [this, ← hg]; simp

theorem op_box (hG : Good P A E l pend) {t : TypeId} {d : Nat} {a : Operand} {strict own : Bool} (ho : o.op = .box t a) (hd : ¬ pend d) {x : V} {u : Value} (hx : RV P E l x u) (hu : ρ a = u) (h0 : boxK P l k strict own t d x = some r) :
    Sound P A E l pend ((execOp ρ o).run P E.w) k r := by
  have hrun : (execOp ρ o).run P E.w = .ok (.value (.pointer (some ⟨E.w.heap.size, 0, none⟩))) (E.w.alloc (.cells u.cells t)) := by
    simp [execOp, ho, hu, Instr.box, newVar, newRow]
  have himm : ∀ st, pur P st x l (fun cs l1 => k (.c (.cp cs)) l1 []) = some r → Sound P A E l pend ((execOp ρ o).run P E.w) k r := by
    intro st h
    obtain ⟨cs, l1, E1, hk, hG1, hM, hc, _⟩ := pur_sound hG hx h
    rw [hrun]
    refine ⟨_, _, _, hk, Up.of_mild hM ?_⟩
    rw [← hM.w]
    refine up_fix hG1 u.cells t (.c ?_)
    exact (fix_at hG1 hc).toC fun j _ => .inr rfl
  unfold boxK at h0
  split at h0
  · obtain ⟨cs, l1, E1, hk, hG1, hM, hc, _⟩ := pur_sound hG hx h0
    obtain ⟨hb, hk⟩ := need_some hk
    rw [hrun]
    refine ⟨_, _, _, hk, Up.of_mild hM ?_⟩
    rw [← hM.w]
    have hl : u.cells.toList.length = cs.length := hc.len
    refine up_create hG1 hd (.inl rfl) (Nat.zero_le _) (by simp at hl; omega) (by rw [List.take_of_length_le (by omega)]; exact hc) (.ptr ?_)
    simp [Env.new, Env.kill]
  · cases h0
  · exact himm _ h0

theorem foldl_set : ∀ (xs : List Value) (off i : Nat) (cells : Array Value), off + i + xs.length ≤ cells.size →
    ((xs.zipIdx i).foldl (fun cs q => cs.setIfInBounds (off + q.2) q.1) cells).toList = cells.toList.take (off + i) ++ xs ++ cells.toList.drop (off + i + xs.length)
  | [], off, i, cells, h => by simp
  | x :: xs, off, i, cells, h => by
    simp only [List.zipIdx_cons, List.foldl_cons]
    rw [foldl_set xs off (i + 1) _ (by simp at h ⊢; omega)]
    simp only [List.length_cons] at h
    simp only [Array.toList_setIfInBounds]
    rw [show off + (i + 1) = off + i + 1 by omega, show off + i + 1 + xs.length = off + i + (xs.length + 1) by omega]
    have hlt : off + i < cells.toList.length := by simp; omega
    rw [List.take_set, List.drop_set_of_lt (by omega)]
    have h1 : (cells.toList.take (off + i + 1)).set (off + i) x = cells.toList.take (off + i) ++ [x] := by
      rw [List.take_succ_eq_append_getElem hlt, List.set_append_right _ _ (by simp; omega)]
      simp
      have : off + i - min (off + i) cells.size = 0 := by simp at hlt; omega
      simp [this]
    rw [h1]; simp

theorem fill_sound {w : World} {Pr : Nat → Nat → Prop} {place : Nat → Option (Nat × Nat)} {R : Type} {r : R} : ∀ {ips : List (Nat × Value)} {ps : List (List C)} {cs : List C} {cells : Array Value} {kk : List C → Option R}
    (_ : ps.length = ips.length) (_ : ∀ (j : Nat) (p : List C) (q : Nat × Value), ps[j]? = some p → ips[j]? = some q → RCs w Pr p q.2.cells.toList) (_ : RCs w Pr cs cells.toList)
    (_ : fillK place (ips.map (·.1)) ps cs kk = some r), ∃ cs' cells', kk cs' = some r ∧ Instr.fill place cells ips = some cells' ∧ RCs w Pr cs' cells'.toList ∧ cells'.size = cells.size
  | [], [], cs, cells, kk, _, _, hc, h => ⟨cs, cells, h, rfl, hc, rfl⟩
  | [], _ :: _, _, _, _, hl, _, _, _ => by simp at hl
  | _ :: _, [], _, _, _, hl, _, _, _ => by simp at hl
  | (i, v) :: ips, p :: ps, cs, cells, kk, hl, hp, hc, h => by
    simp only [List.map_cons, fillK] at h
    split at h
    · cases h
    · rename_i off sz hpl
      obtain ⟨hb, hk⟩ := need_some h
      rw [Bool.and_eq_true] at hb
      have h1 : p.length = sz := Nat.eq_of_beq_eq_true hb.1
      have h2 : off + p.length ≤ cs.length := Nat.le_of_ble_eq_true hb.2
      have hv := hp 0 p (i, v) rfl rfl
      have hvl : v.cells.size = p.length := by have := hv.len; simpa using this
      have hcl : cells.size = cs.length := by have := hc.len; simpa using this
      have hset := foldl_set v.cells.toList off 0 cells (by simp; omega)
      have e : v.cells.zipIdx.foldl (fun cs q => cs.setIfInBounds (off + q.2) q.1) cells = (v.cells.toList.zipIdx 0).foldl (fun cs q => cs.setIfInBounds (off + q.2) q.1) cells := by
        rw [← Array.foldl_toList, Array.toList_zipIdx]
      have hc2 : RCs w Pr (putAt cs off p) (v.cells.zipIdx.foldl (fun cs q => cs.setIfInBounds (off + q.2) q.1) cells).toList := by
        rw [e, hset, Nat.add_zero]
        exact hc.putAt hv off
      have hsz2 : (v.cells.zipIdx.foldl (fun cs q => cs.setIfInBounds (off + q.2) q.1) cells).size = cells.size := by
        rw [e, ← Array.length_toList, hset]
        simp
        omega
      obtain ⟨cs', cells', h3, h4, h5, h6⟩ := fill_sound (ips := ips) (ps := ps) (by simpa using hl) (fun j q z hq hz => hp (j + 1) q z (by simpa using hq) (by simpa using hz)) hc2 hk
      refine ⟨cs', cells', h3, ?_, h5, h6.trans hsz2⟩
      simp only [Instr.fill, hpl]
      rw [if_neg (by simp; constructor <;> omega)]
      exact h4

theorem run_mapM_list {α β : Type} (f : α → Sem β) (g : α → β) (w : World) : ∀ (xs : List α), (∀ x ∈ xs, (f x).run P w = .ok (g x) w) → (xs.mapM f).run P w = .ok (xs.map g) w
  | [], _ => by simp
  | x :: xs, h => by
    rw [List.mapM_cons, Sem.run_bind, h x (by simp)]
    simp only [Result.andThen_ok]
    rw [Sem.run_bind, run_mapM_list f g w xs (fun y hy => h y (by simp [hy]))]
    rfl

theorem run_mapM_array {α β : Type} (f : α → Sem β) (g : α → β) (w : World) (xs : Array α) (h : ∀ x ∈ xs.toList, (f x).run P w = .ok (g x) w) : (xs.mapM f).run P w = .ok (xs.map g) w := by
  rw [Array.mapM_eq_mapM_toList, Sem.run_map, run_mapM_list f g w xs.toList h]
  simp only [Result.andThen_ok]
  congr 1
  apply Array.ext'
  simp

theorem op_build (hG : Good P A E l pend) {t : TypeId} {parts : Array (Nat × Operand)} {strict : Bool} (ho : o.op = .build t parts) {e : Operand → V} (hop : ∀ p ∈ parts.toList, RV P E l (e p.2) (ρ p.2))
    (h0 : buildK P l k strict t (parts.toList.map (·.1)) (parts.toList.map fun p => e p.2) = some r) : Sound P A E l pend ((execOp ρ o).run P E.w) k r := by
  have hrel : ∀ (j : Nat) (x : V) (u : Value), (parts.toList.map fun p => e p.2)[j]? = some x → (parts.toList.map fun p => ρ p.2)[j]? = some u → RV P E l x u := by
    intro j x u hx hu
    rw [List.getElem?_map] at hx hu
    cases hj : parts.toList[j]? with
    | none => rw [hj] at hx; cases hx
    | some y =>
      rw [hj] at hx hu
      injection hx with hx; injection hu with hu; subst hx hu
      exact hop y (List.mem_of_getElem? hj)
  have main : ∀ (place : Nat → Option (Nat × Nat)) (zs : List C), zeroCs P t = some zs →
      (∀ z w, (zeroValue t).run P w = .ok z w → ∀ cells', Instr.fill place z.cells (parts.toList.map fun p => (p.1, ρ p.2)) = some cells' → (Instr.build t (parts.map fun p => (p.1, ρ p.2))).run P w = .ok (.agg cells') w) →
      purL P strict (parts.toList.map fun p => e p.2) l (fun ps l1 => fillK place (parts.toList.map (·.1)) ps zs fun cs => k (.agg cs) l1 []) = some r → Sound P A E l pend ((execOp ρ o).run P E.w) k r := by
    intro place zs hz hb h
    obtain ⟨ps, l1, E1, hk, hG1, hM, hl, hp, _⟩ := purL_sound (us := parts.toList.map fun p => ρ p.2) hG (by simp) hrel h
    obtain ⟨i, z, hi, hiz, hrun, hlen, hrc⟩ := zeroCs_run hz E.w
    have hips : (parts.toList.map fun p => (p.1, ρ p.2)).map (·.1) = parts.toList.map (·.1) := by simp
    rw [← hips] at hk
    obtain ⟨cs, cells', hk', hf, hc, _⟩ := fill_sound (w := E1.w) (Pr := E1.Pr) (ips := parts.toList.map fun p => (p.1, ρ p.2)) (by simpa using hl) (fun j p q hp' hq => by
      refine hp j p q.2 hp' ?_
      rw [List.getElem?_map] at hq ⊢
      cases hj : parts.toList[j]? with
      | none => rw [hj] at hq; cases hq
      | some y => rw [hj] at hq; injection hq with hq; subst hq; rfl) (hrc _ _) hk
    have hrun2 : (execOp ρ o).run P E.w = .ok (.value (.agg cells')) E.w := by
      simp only [execOp, ho]
      rw [Sem.run_bind, hb z E.w hrun cells' hf]; rfl
    rw [hrun2]
    refine .mild hG1 hM hk' ?_
    have := RV.agg (P := P) (l := l1) hc
    simpa using this
  unfold buildK at h0
  split at h0
  · rename_i fs zs hT hz
    obtain ⟨hall, h1⟩ := need_some h0
    refine main _ zs hz (fun z w hrun cells' hf => ?_) h1
    have hinf : ∀ f ∈ fs.toList, (sizeOf f.type).run P w = .ok (szOf P f.type) w := by
      intro f hf'
      have := List.all_eq_true.1 hall f hf'
      obtain ⟨i, hi⟩ := Option.isSome_iff_exists.1 this
      rw [run_sizeOf hi, szOf_info hi]
    have hm := run_mapM_array (P := P) (fun f : Field => do pure (f.offset, ← sizeOf f.type)) (fun f => (f.offset, szOf P f.type)) w fs (fun f hf' => by simp [hinf f hf'])
    have hpl : (fun i : Nat => (fs.map fun f : Field => (f.offset, szOf P f.type))[i]?) = placeS P fs := by
      funext i
      simp only [placeS, Array.getElem?_map, Array.getElem?_toList]
      cases fs[i]? <;> rfl
    simp only [Instr.build, Sem.run_bind, hrun, Result.andThen_ok, run_underlying hT, hm]
    rw [hpl]
    simp only [Array.toList_map]
    rw [hf]
    rfl
  · rename_i n el zs hT hz
    obtain ⟨hall, h1⟩ := need_some h0
    obtain ⟨i, hi⟩ := Option.isSome_iff_exists.1 hall
    refine main _ zs hz (fun z w hrun cells' hf => ?_) h1
    rw [szOf_info hi] at hf
    simp only [Instr.build, Sem.run_bind, hrun, Result.andThen_ok, run_underlying hT, run_sizeOf hi]
    simp only [Array.toList_map]
    rw [hf]
    rfl
  · cases h0

end
end Go.PM
