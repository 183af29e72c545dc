/- The pure machine: new slices of a length, function values, stores. -/
import Derived.Test.YtepjbmlhfhahcaaPMk
set_option linter.unusedVariables false
set_option linter.unusedSimpArgs false
namespace Go.PM
open Go

variable {P : Program}

section
variable {A : Fr} {E : Env} {l : Loc} {pend : Nat → Prop} {R : Type} {k : V → Loc → List Nat → Option R} {r : R} {o : Oper} {ρ : Operand → Value}

theorem wrap_small {a : Int} (h0 : 0 ≤ a) (h1 : a ≤ 140737488355328) : IntKind.i64.wrap a = a := by
  have e1 : ((2 : Int) ^ IntKind.i64.bits) = 18446744073709551616 := by decide
  have e2 : ((2 : Int) ^ (IntKind.i64.bits - 1)) = 9223372036854775808 := by decide
  unfold IntKind.wrap
  simp only [e1, e2]
  rw [Int.emod_eq_of_lt h0 (by omega)]
  rw [if_neg]
  simp [IntKind.signed]
  omega

theorem op_makeSlice (hG : Good P A E l pend) {t : TypeId} {d : Nat} {a b : Operand} (ho : o.op = .makeSlice t a b) (hd : ¬ pend d) {x y : V} {u v : Value} (hx : RV P E l x u) (hy : RV P E l y v) (hu : ρ a = u) (hv : ρ b = v)
    (h0 : makeSliceK P l k t d x y = some r) : Sound P A E l pend ((execOp ρ o).run P E.w) k r := by
  unfold makeSliceK at h0
  split at h0
  case h_2 => cases h0
  case h_1 el n c hT hn hc =>
    obtain ⟨kd, rfl⟩ := idxI_eq hn hx
    obtain ⟨kd', rfl⟩ := idxI_eq hc hy
    split at h0
    case h_2 => cases h0
    case h_1 i zs hi hz =>
      obtain ⟨hb, hk⟩ := need_some h0
      simp only [Bool.and_eq_true, decide_eq_true_iff] at hb
      obtain ⟨⟨⟨⟨hb1, hb2⟩, hb3⟩, hb4⟩, hb5⟩ := hb
      have hs0 : i.size ≠ 0 := by intro e; rw [e] at hb5; cases hb5
      obtain ⟨i', z, hi', hiz, hrun, hlen, hrc⟩ := zeroCs_run hz E.w
      rw [hi] at hi'; injection hi' with hi'; subst hi'
      have w1 := wrap_small hb1 (by omega)
      have w2 := wrap_small (by omega : 0 ≤ c) hb4
      have hzs : z.cells.size = i.size := by have := (hrc E.w E.Pr).len; simp at this; omega
      have hnot : ¬ ((decide (c < 0) || decide ((i.bytes : Int) * c > 2 ^ 48)) || decide (n < 0) || decide (n > c)) = true := by
        simp only [Bool.or_eq_true, decide_eq_true_iff, not_or]
        refine ⟨⟨⟨by omega, ?_⟩, by omega⟩, by omega⟩
        have : (2 : Int) ^ 48 = 281474976710656 := by decide
        rw [this]; omega
      have hrun2 : (execOp ρ o).run P E.w = .ok (.value (.slice (some ⟨E.w.heap.size, 0, none⟩) n.toNat c.toNat)) (E.w.alloc (.cells ((Array.range (c.toNat * i.size)).map (z.cells[· % z.cells.size]!)) el)) := by
        simp only [execOp, ho, hu, hv, Instr.makeSlice, Sem.run_bind, run_underlying hT, Result.andThen_ok, asInt, asIntOf, Sem.run_pure, typeInfo, run_program, hi, w1, w2]
        rw [if_neg hnot]
        simp only [Sem.run_bind, run_askRoom, Result.andThen_ok, run_sizeOf hi]
        by_cases h : c.toNat * i.size = 0
        · rw [if_pos h]
          have hb0 : (Array.range (c.toNat * i.size)).map ((#[] : Array Value)[· % (#[] : Array Value).size]!) = (Array.range (c.toNat * i.size)).map (z.cells[· % z.cells.size]!) := by simp [h]
          simp only [Sem.run_bind, Sem.run_pure, Result.andThen_ok]
          rw [hb0]
          simp [newRow]
        · rw [if_neg h]
          simp only [Sem.run_bind, Sem.run_pure, Result.andThen_ok, hrun]
          simp [newRow]
      rw [hrun2]
      have hfull := reps_rcs (hrc E.w E.Pr) c.toNat (.inr trivial)
      have htk : RCs E.w E.Pr (reps n.toNat zs) (((Array.range (c.toNat * i.size)).map (z.cells[· % z.cells.size]!)).toList.take (reps n.toNat zs).length) := by
        have h1 := hfull.take (n.toNat * zs.length)
        have h2 : (reps c.toNat zs).take (n.toNat * zs.length) = reps n.toNat zs := by
          have hle : n.toNat ≤ c.toNat := by omega
          obtain ⟨m, hm⟩ := Nat.exists_eq_add_of_le hle
          rw [hm]
          have : reps (n.toNat + m) zs = reps n.toNat zs ++ reps m zs := by simp [reps, ← List.replicate_append_replicate]
          rw [this, List.take_append_of_le_length (by rw [reps_length]; exact Nat.le_refl _), List.take_of_length_le (by rw [reps_length]; exact Nat.le_refl _)]
        rw [h2, hlen] at h1
        rw [reps_length, hlen]
        exact h1
      refine ⟨_, _, _, hk, up_create hG hd (.inr rfl) (Nat.zero_le _) (by simp [reps_length, hlen]; exact Nat.mul_le_mul_right _ (by omega)) htk (.own (g := E.w.heap.size) (cap := c.toNat) (t := el) (fz := 0) (cs := reps n.toNat zs) (by simp [Env.new, Env.kill]) (by rw [put_same]; rfl) (by omega) (by unfold maxLen; omega) ?_)⟩
      rw [szOf_info hi]; simp [Env.new]

theorem flatten_one : ∀ (ps : List (List C)), (ps.all fun p => Nat.beq p.length 1) = true → ∃ cs : List C, ps = cs.map (fun c => [c]) ∧ ps.flatten = cs
  | [], _ => ⟨[], rfl, rfl⟩
  | p :: ps, h => by
    rw [List.all_cons, Bool.and_eq_true] at h
    obtain ⟨cs, e1, e2⟩ := flatten_one ps h.2
    have hp : p.length = 1 := Nat.eq_of_beq_eq_true h.1
    match p, hp with
    | [c], _ => exact ⟨c :: cs, by simp [e1], by simp [e2]⟩

theorem purL_one {strict : Bool} : ∀ {xs : List V} {us : List Value} {l : Loc} {E : Env} {pend : Nat → Prop} (_ : Good P A E l pend) (_ : us.length = xs.length) (_ : ∀ (j : Nat) (x : V) (u : Value), xs[j]? = some x → us[j]? = some u → RV P E l x u)
    {kk : List (List C) → Loc → Option R} (_ : purL P strict xs l kk = some r) (_ : xs.all oneV = true), ∀ u ∈ us, u.oneCell' = true
  | [], [], _, _, _, _, _, _, _, _, _ => by simp
  | [], _ :: _, _, _, _, _, hl, _, _, _, _ => by simp at hl
  | _ :: _, [], _, _, _, _, hl, _, _, _, _ => by simp at hl
  | x :: xs, u :: us, l, E, pend, hG, hl, hx, kk, h, h1 => by
    rw [List.all_cons, Bool.and_eq_true] at h1
    have hu := pur_one (hx 0 x u rfl rfl) h h1.1
    obtain ⟨cs, l1, E1, hk, hG1, hM, _, _⟩ := pur_sound hG (hx 0 x u rfl rfl) h
    intro v hv
    rcases List.mem_cons.1 hv with rfl | hv
    · exact hu
    · exact purL_one hG1 (by simpa using hl) (fun j y w hy hw => hM.rv (hx (j + 1) y w (by simpa using hy) (by simpa using hw))) hk h1.2 v hv

theorem op_makeFunc (hG : Good P A E l pend) {f : FuncId} {first cap : Array Operand} {strict : Bool} (ho : o.op = .makeFunc (.func f) first cap) (hf : first.toList = []) {e : Operand → V} (hop : ∀ y ∈ cap.toList, RV P E l (e y) (ρ y))
    (hone : (cap.toList.map e).all oneV = true) (h0 : makeFuncK P l k strict f (cap.toList.map e) = some r) : Sound P A E l pend ((execOp ρ o).run P E.w) k r := by
  have hfe : first = #[] := by apply Array.ext'; simpa using hf
  subst hfe
  unfold makeFuncK at h0
  have hones := purL_one (us := cap.toList.map ρ) hG (by simp) (rel_map hop) h0 hone
  obtain ⟨ps, l1, E1, hk, hG1, hM, hl, hp, _⟩ := purL_sound (us := cap.toList.map ρ) hG (by simp) (rel_map hop) h0
  obtain ⟨hb, hk2⟩ := need_some hk
  obtain ⟨cs, e1, e2⟩ := flatten_one ps hb
  rw [e2] at hk2
  have hrun : (execOp ρ o).run P E.w = .ok (.value (.func (.func f) #[] (cap.toList.map ρ).toArray)) E.w := by
    simp [execOp, ho, Instr.makeFunc]
    apply Array.ext'; simp
  rw [hrun]
  refine .mild hG1 hM hk2 (.c (.fn ?_ ?_))
  · rw [← hl, e1]; simp
  · intro j c u hc hu
    have h1 := hp j [c] u (by rw [e1]; simp [hc]) hu
    rw [cells_one (hones u (List.mem_of_getElem? hu))] at h1
    obtain ⟨v, vs, e3, h3, _⟩ := h1.uncons
    simp at e3
    rw [e3.1]; exact h3

/-- A store into an object. -/
def Env.set (E : Env) (g : Nat) (cur : Array Value) : Env := { E with w := E.w.setRow g cur }

theorem setRow_size (w : World) (g : Nat) (cs : Array Value) : (w.setRow g cs).heap.size = w.heap.size := by simp [World.setRow]

theorem good_set (hG : Good P A E l pend) {s g : Nat} (hr : E.rho s = some g) {cur cur' : Array Value} {t : TypeId} (hg : E.w.heap[g]? = some (.cells cur t (0, 0))) (hsz : cur'.size = cur.size)
    {ob : Obj} (hfz : ob.fz = (l s).fz) (hsame : ∀ j, j < (l s).fz → cur'[j]? = cur[j]?) (hob : Held E.w E.Pr (E.set g cur').w (E.set g cur').Pr → (∀ s', Keeps1 E (E.set g cur') l (l.put s ob) s') → ObjOk P (E.set g cur') (l.put s ob) s ob) (hsh : Sh l (l.put s ob) s) :
    Good P A (E.set g cur') (l.put s ob) pend ∧ Held E.w E.Pr (E.set g cur').w (E.set g cur').Pr ∧ ∀ s', Keeps1 E (E.set g cur') l (l.put s ob) s' := by
  have hlt := hG.lt hr
  have hgn : (E.set g cur').w.heap[g]? = some (.cells cur' t (0, 0)) := setRow_heap E.w g cur cur' t (0, 0) hg
  have hx : Held E.w E.Pr (E.set g cur').w (E.set g cur').Pr := by
    intro b k hp
    refine ⟨hp, ?_⟩
    by_cases hb : b = g
    · subst hb
      have hk := (hG.prot b k hp).2 s hr
      rw [cell_of_row _ b k cur' t (0, 0) hgn, cell_of_row _ b k cur t (0, 0) hg]
      exact hsame k hk
    · exact World.cell?_of_block (w := E.w) (setRow_other E.w g b cur' hb)
  have hk : ∀ s', Keeps1 E (E.set g cur') l (l.put s ob) s' := by
    intro s'
    by_cases hne : s' = s
    · subst hne; exact .inr ⟨hG.ne_dead hr, rfl, rfl, hsh⟩
    · by_cases hd : l s' = .dead
      · exact .inl ((put_other l ob hne).trans hd)
      · exact .inr ⟨hd, rfl, rfl, .same (put_other l ob hne)⟩
  have hps : ¬ pend s := fun hp => by rw [(hG.pnd s hp).1] at hr; cases hr
  refine ⟨⟨fun s' hp => ?_, fun s' hp => ?_, hG.inj, hG.base, fun b k hp => ⟨?_, fun a ha => ?_⟩, hG.jstep rfl rfl hx (fun _ _ h => .inl h) (fun b hb => setRow_other E.w g b cur' (fun e => hG.yown s g hr (e ▸ hb))) (Nat.le_of_eq (setRow_size E.w g cur').symm) rfl rfl rfl, hG.pr0.trans hx, hG.prN, ?_, hG.os, hG.tape, hG.output, hG.yok, hG.yown, fun b hb => Nat.lt_of_lt_of_le (hG.ylt b hb) (Nat.le_of_eq (setRow_size E.w g cur').symm), fun r hr' => ⟨(setRow_other E.w g r cur' (fun e => by have h1 := (hG.dm r hr').1; rw [e, hg] at h1; cases h1)).trans (hG.dm r hr').1, (hG.dm r hr').2⟩⟩, hx, hk⟩
  · by_cases hne : s' = s
    · subst hne; rw [put_same]; exact hob hx hk
    · rw [put_other l ob hne]
      refine (hG.obj s' hp).keep hx rfl rfl (fun g' hg' => ?_) fun _ _ _ _ hu => hu.mono0 hx hk
      exact setRow_other E.w g g' cur' (fun e => hne (hG.inj s' s g (e ▸ hg') hr))
  · obtain ⟨h1, cs', hz, ho'⟩ := hG.pnd s' hp
    exact ⟨h1, cs', hz, (put_other l ob (fun (e : s' = s) => hps (e ▸ hp))).trans ho'⟩
  · have := (hG.prot b k hp).1
    show b < (E.w.setRow g cur').heap.size
    rw [setRow_size]; exact this
  · by_cases hne : a = s
    · subst hne; rw [put_same, hfz]; exact (hG.prot b k hp).2 a ha
    · rw [put_other l ob hne]; exact (hG.prot b k hp).2 a ha
  · show _ ≤ (E.w.setRow g cur').heap.size
    rw [setRow_size]; exact hG.size

theorem op_store (hG : Good P A E l pend) {t : TypeId} {a b : Operand} {strict : Bool} (ho : o.op = .store t a b) {x y : V} {u v : Value} (hx : RV P E l x u) (hy : RV P E l y v) (hu : ρ a = u) (hv : ρ b = v)
    (h0 : storeK P l k strict t x y = some r) : Sound P A E l pend ((execOp ρ o).run P E.w) k r := by
  unfold storeK at h0
  split at h0
  case h_2 => cases h0
  case h_1 s off =>
    have hobj : storeOb P l k strict t s off y = some r → Sound P A E l pend ((execOp ρ o).run P E.w) k r := by
      intro h
      unfold storeOb at h
      obtain ⟨xs, l1, E1, hk, hG1, hM, hc, _⟩ := pur_sound hG hy h
      have hx1 := hM.rv hx
      have main : ∀ t' fz cs (mk : List C → Obj), objTC (l1 s) = some (t', fz, cs) → (∀ q, objTC (mk q) = some (t', fz, q)) → (mk (putAt cs off xs)).fz = fz → Sh l1 (l1.put s (mk (putAt cs off xs))) s →
          (∀ E' l', Blk E' s (((E1.rho s).getD 0)) t' (putAt cs off xs) → E'.rho s = some ((E1.rho s).getD 0) → fz ≤ (putAt cs off xs).length → ObjOk P E' l' s (mk (putAt cs off xs))) →
          xs.length = szOf P t → fz ≤ off → off + xs.length ≤ cs.length → (∃ i, P.info? t = some i) → k .und (l1.put s (mk (putAt cs off xs))) [] = some r → Sound P A E l pend ((execOp ρ o).run P E.w) k r := by
        intro t' fz cs mk hl hmk hmf hsh hok hlen hfz hle hi hk
        cases hx1 with
        | ptrDead hd => rw [hd] at hl; cases hl
        | @ptr _ _ g hr =>
          obtain ⟨⟨cur, hg, hbs, hcl, hcc⟩, hfl⟩ := blk_of hG1 hl hr
          have hpl : (putAt cs off xs).length = cs.length := by simp [putAt]; omega
          have hvl : v.cells.toList.length = xs.length := hc.len
          let cur' : Array Value := (cur.toList.take off ++ v.cells.toList ++ cur.toList.drop (off + v.cells.toList.length)).toArray
          have hcs : cur'.size = cur.size := by simp [cur'] at hvl ⊢; omega
          obtain ⟨i, hi⟩ := hi
          have hst := run_storeCells_at P g off t' v.cells.toList 0 cur E1.w hg (by rw [hvl]; omega) hc.ones
          have hrun : (execOp ρ o).run P E.w = .ok .skip (E1.w.setRow g cur') := by
            have hsz : v.cells.size = i.size := by rw [← szOf_info hi, ← hlen, ← hvl]; simp
            simp only [execOp, ho, hu, hv, Instr.storeAt, Instr.sureAddr, storeVar, Sem.run_bind, Sem.run_pure, Result.andThen_ok, run_sizeOf hi]
            rw [if_neg (by simp [hsz])]
            rw [← hM.w, hst]
            simp [cur']
          rw [hrun]
          obtain ⟨q1, q2, q3⟩ := good_set hG1 (s := s) hr hg hcs (ob := mk (putAt cs off xs)) (by rw [hmf]; rcases objTC_cases hl with e | e <;> rw [e] <;> rfl) (fun j hj => by
              have hfz' : (l1 s).fz = fz := by rcases objTC_cases hl with e | e <;> rw [e] <;> rfl
              rw [hfz'] at hj
              have hjc : j < cur.size := by omega
              simp only [cur', List.getElem?_toArray]
              rw [List.append_assoc, List.getElem?_append_left (by simp; omega), List.getElem?_take, if_pos (by omega)]
              simp) (fun hx' hk' => hok _ _ ⟨cur', by rw [hr]; exact setRow_heap E1.w g cur cur' t' (0, 0) hg, hcs.trans hbs, by rw [hpl, hcs]; exact hcl, by
                have h1 := (hcc.held hx').putAt (hc.held hx') off
                have h2 : cur'.toList.take (putAt cs off xs).length = (cur.toList.take cs.length).take off ++ v.cells.toList ++ (cur.toList.take cs.length).drop (off + v.cells.toList.length) := by
                  rw [hpl]
                  simp only [cur']
                  rw [List.take_take, Nat.min_eq_left (by omega), List.drop_take]
                  rw [List.append_assoc, List.take_append, List.append_assoc]
                  simp only [List.length_take]
                  have e1 : min off cur.toList.length = off := by simp; omega
                  rw [e1, List.take_of_length_le (by simp; omega), List.take_append]
                  congr 1
                  rw [List.take_of_length_le (by omega)]
                  congr 2
                  omega
                rw [h2]; exact h1⟩ (by rw [hr]; exact hr) (by rw [hpl]; exact hfl)) hsh
          refine ⟨_, _, _, hk, Up.of_mild hM ⟨_, rfl, ⟨q1, rfl⟩, .und, fun y' v' hy' _ => hy'.mono0 q2 q3⟩⟩
      split at hk
      · rename_i t' fz cs hl
        obtain ⟨hb, hk2⟩ := need_some hk
        rw [Bool.and_eq_true, Bool.and_eq_true, Bool.and_eq_true] at hb
        obtain ⟨hb, hinf⟩ := hb
        refine main t' fz cs (fun q => .ob t' fz q) (by rw [hl]; rfl) (fun _ => rfl) rfl ⟨(fun _ _ e => by rw [hl] at e; cases e), fun _ _ _ e => .inl ⟨fz, putAt cs off xs, by rw [hl] at e; injection e with e; injection e with e1 _; subst e1; rw [put_same]; rfl⟩, (fun _ _ e => by rw [hl] at e; cases e)⟩
          (fun E' l' h1 h2 h3 => .ob h2 h1 h3) (Nat.eq_of_beq_eq_true hb.1.1) (Nat.le_of_ble_eq_true hb.1.2) (Nat.le_of_ble_eq_true hb.2) (Option.isSome_iff_exists.1 hinf) hk2
      · rename_i t' fz cs hl
        obtain ⟨hb, hk2⟩ := need_some hk
        rw [Bool.and_eq_true, Bool.and_eq_true, Bool.and_eq_true] at hb
        obtain ⟨hb, hinf⟩ := hb
        have hle := Nat.le_of_ble_eq_true hb.2
        refine main t' fz cs (fun q => .sb t' fz q) (by rw [hl]; rfl) (fun _ => rfl) rfl ⟨(fun t2 fz2 e => by
            rw [hl] at e; injection e with e1 e2 e3; subst e1 e3
            have hle2 : off + xs.length ≤ 0 := hle
            have hxs : xs = [] := List.eq_nil_of_length_eq_zero (by omega)
            have ho0 : off = 0 := by omega
            exact ⟨fz, by rw [put_same, hxs, ho0]; rfl⟩), fun _ _ _ e => .inl ⟨fz, putAt cs off xs, by rw [hl] at e; injection e with e; injection e with e1 _; subst e1; rw [put_same]; rfl⟩, (fun _ _ e => by rw [hl] at e; cases e)⟩
          (fun E' l' h1 h2 h3 => .sb h2 h1 h3) (Nat.eq_of_beq_eq_true hb.1.1) (Nat.le_of_ble_eq_true hb.1.2) hle (Option.isSome_iff_exists.1 hinf) hk2
      · cases hk
    have hrf : ∀ t' z, (l s = .rf t' z ∨ ∃ fz cs, l s = .ob t' fz cs ∧ cs.length = 1 ∧ fz = 0) → storeRf P l k t s off t' y = some r → Sound P A E l pend ((execOp ρ o).run P E.w) k r := by
      intro t' z hl h
      have hdead : l s ≠ .dead := by rcases hl with e | ⟨_, _, e, _⟩ <;> rw [e] <;> simp
      have hfz0 : (l s).fz = 0 := by rcases hl with e | ⟨_, _, e, _, e2⟩ <;> rw [e]; · rfl
                                     · exact e2
      cases hx with
      | ptrDead hd => exact absurd hd hdead
      | @ptr _ _ g hr =>
        have hps : ¬ pend s := fun hp => by rw [(hG.pnd s hp).1] at hr; cases hr
        have h0' := hG.obj s hps
        have hb1 : ∃ cur : Array Value, E.w.heap[g]? = some (.cells cur t' (0, 0)) ∧ 1 ≤ cur.size ∧ cur.size = E.bs s := by
          rcases hl with e | ⟨fz, cs, e, e1, _⟩
          · rw [e] at h0'
            cases h0' with
            | rf h1 h2 h2' h3 h4 h5 =>
              rw [hr] at h1; injection h1 with h1; subst h1
              exact ⟨_, h2, by have := (Array.getElem?_eq_some_iff.1 h2').1; omega, h5.symm⟩
          · rw [e] at h0'
            cases h0' with
            | ob h1 h2 h3 => rw [hr] at h1; injection h1 with h1; subst h1; obtain ⟨cur, q1, q2, q3, _⟩ := h2; exact ⟨cur, q1, by omega, q2⟩
        obtain ⟨cur, hg, hc1, hbs⟩ := hb1
        have key : ∀ y', RV P E l y' v → v.oneCell' = true → off = 0 → szOf P t = 1 → (∃ i, P.info? t = some i) → k .und (l.put s (.rf t' y')) [] = some r → Sound P A E l pend ((execOp ρ o).run P E.w) k r := by
          intro y' hy' hone hoff hs1 hi hk
          obtain ⟨i, hi⟩ := hi
          subst hoff
          rw [szOf_info hi] at hs1
          let cur' : Array Value := (cur.toList.take (0 + 0) ++ [v] ++ cur.toList.drop (0 + 0 + [v].length)).toArray
          have hcs : cur'.size = cur.size := by simp [cur']; omega
          have hst := run_storeCells_at P g 0 t' [v] 0 cur E.w hg (by simp; omega) (by simpa using hone)
          have hrun : (execOp ρ o).run P E.w = .ok .skip (E.w.setRow g cur') := by
            simp only [execOp, ho, hu, hv, Instr.storeAt, Instr.sureAddr, storeVar, Sem.run_bind, Sem.run_pure, Result.andThen_ok, run_sizeOf hi]
            rw [cells_one hone, if_neg (by simp [hs1])]
            rw [show (#[v] : Array Value).toList = [v] from rfl, hst]
            rfl
          rw [hrun]
          obtain ⟨q1, q2, q3⟩ := good_set hG (s := s) hr hg hcs (ob := .rf t' y') (by rw [hfz0]; rfl) (fun j hj => by rw [hfz0] at hj; omega)
            (fun hx' hk' => .rf hr (setRow_heap E.w g cur cur' t' (0, 0) hg) (by simp [cur']) (hy'.mono0 hx' hk') hone (hbs.symm.trans hcs.symm))
            ⟨(fun _ _ e => by rcases hl with h' | ⟨_, _, h', _⟩ <;> rw [h'] at e <;> cases e), fun _ _ _ _ => .inr ⟨t', y', put_same _ _ _⟩, fun _ _ _ => ⟨t', y', put_same _ _ _⟩⟩
          exact ⟨_, _, _, hk, _, rfl, ⟨q1, rfl⟩, .und, fun z v' hz' _ => hz'.mono0 q2 q3⟩
        unfold storeRf at h
        split at h
        · obtain ⟨hb, hk⟩ := need_some h
          simp only [Bool.and_eq_true] at hb
          obtain ⟨hb, hl'⟩ := hb
          refine key _ hy ?_ (Nat.eq_of_beq_eq_true hb.1.1) (Nat.eq_of_beq_eq_true hb.1.2) (Option.isSome_iff_exists.1 hb.2) hk
          cases hy with
          | ownDead hd => rw [hd] at hl'; cases hl'
          | ownRf hd => rw [hd] at hl'; cases hl'
          | ownNil _ _ => rfl
          | own _ _ _ _ _ => rfl
          | own0 _ _ _ => rfl
        · obtain ⟨hb, hk⟩ := need_some h
          simp only [Bool.and_eq_true] at hb
          refine key _ hy ?_ (Nat.eq_of_beq_eq_true hb.1.1) (Nat.eq_of_beq_eq_true hb.1.2) (Option.isSome_iff_exists.1 hb.2) hk
          cases hy with | c hc => exact hc.one
        · cases h
    cases hl : l s with
    | dead => rw [hl] at h0; cases h0
    | ob t' fz cs =>
      rw [hl] at h0
      simp only at h0
      cases hb : (isOwn y && Nat.beq cs.length 1 && Nat.beq fz 0) with
      | true =>
        rw [hb] at h0
        rw [Bool.and_eq_true, Bool.and_eq_true] at hb
        exact hrf t' .und (.inr ⟨fz, cs, hl, Nat.eq_of_beq_eq_true hb.1.2, Nat.eq_of_beq_eq_true hb.2⟩) h0
      | false => rw [hb] at h0; exact hobj h0
    | sb t' fz cs => rw [hl] at h0; exact hobj h0
    | rf t' z => rw [hl] at h0; exact hrf t' z (.inl hl) h0

end
end Go.PM
