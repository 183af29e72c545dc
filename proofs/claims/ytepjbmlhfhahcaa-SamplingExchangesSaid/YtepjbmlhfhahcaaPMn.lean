/- The pure machine: append, the operation. -/
import Derived.Test.YtepjbmlhfhahcaaPMm
set_option linter.unusedVariables false
set_option linter.unusedSimpArgs false
namespace Go.PM
open Go

variable {P : Program}

section
variable {A : Fr} {E : Env} {l : Loc} {pend : Nat → Prop} {R : Type} {k : V → Loc → List Nat → Option R} {r : R} {o : Oper} {ρ : Operand → Value}

theorem run_append_fits {t ty e : TypeId} {i : TypeInfo} (ht : P.underlying t = some (.slice e)) (hi : P.info? e = some i) {w : World} {g n cap m c : Nat} {a : Option Addr} {us : List Value} {cur : Array Value}
    (hfc : (Builtin.firstCells i.size m (.slice a m c)).run P w = .ok us.toArray w) (hroom : n + m ≤ cap)
    (hg : w.heap[g]? = some (.cells cur e (0, 0))) (hus : n * i.size + us.length ≤ cur.size) (h1 : ∀ u ∈ us, u.oneCell' = true) :
    (Builtin.append_ #[t, t] ty #[.slice (some ⟨g, 0, none⟩) n cap, .slice a m c]).run P w = .ok (.slice (some ⟨g, 0, none⟩) (n + m) cap) (w.setRow g (cur.toList.take (n * i.size) ++ us ++ cur.toList.drop (n * i.size + us.length)).toArray) := by
  have hst := run_storeCells_at P g (n * i.size) e us 0 cur w hg (by simpa using hus) h1
  simp only [Nat.add_zero] at hst
  simp [Builtin.append_, run_underlying ht, sizeOf, typeInfo, hi, Builtin.lenOf, hroom, hfc, add_none, hst]

theorem run_append_nilnil {t ty e : TypeId} {i : TypeInfo} (ht : P.underlying t = some (.slice e)) (hi : P.info? e = some i) {w : World} {c : Nat} {a : Option Addr}
    (hfc : (Builtin.firstCells i.size 0 (.slice a 0 c)).run P w = .ok #[] w) : (Builtin.append_ #[t, t] ty #[.slice none 0 0, .slice a 0 c]).run P w = .ok (.slice none 0 0) w := by
  simp [Builtin.append_, run_underlying ht, sizeOf, typeInfo, hi, Builtin.lenOf, hfc]

theorem run_append_grows {t ty e : TypeId} {i : TypeInfo} {z : Value} (ht : P.underlying t = some (.slice e)) (hi : P.info? e = some i) (hz : i.zero = some z) {w : World} {n cap m c : Nat} {a b : Option Addr} {olds us : List Value}
    (hfo : (Builtin.firstCells i.size n (.slice b n cap)).run P w.drew = .ok olds.toArray w.drew) (hfc : (Builtin.firstCells i.size m (.slice a m c)).run P w.drew = .ok us.toArray w.drew) (hroom : cap < n + m)
    (h63 : n + m ≤ 9223372036854775807) (hfit : Builtin.nextslicecap (n + m) cap * i.bytes ≤ 281474976710656) :
    (Builtin.append_ #[t, t] ty #[.slice b n cap, .slice a m c]).run P w = .ok (.slice (some ⟨w.heap.size, 0, none⟩) (n + m) (grownCap w (n + m) cap e))
      (w.drew.alloc (.cells (olds ++ us ++ (Builtin.zeroCells z.cells (grownCap w (n + m) cap e - (n + m))).toList).toArray e)) := by
  have hn : ¬ (n + m ≤ cap) := by omega
  have h63' : ¬ (9223372036854775807 < ((n : Int) + (m : Int))) := by omega
  have hfit' : ¬ (281474976710656 < Builtin.nextslicecap (n + m) cap * i.bytes) := by omega
  simp [Builtin.append_, run_underlying ht, sizeOf, typeInfo, zeroValue, hi, hz, Builtin.lenOf, hn, h63', hfit', Question.forced, newRow, grownCap, hfo, hfc]
  congr 2
  apply Array.ext'
  simp [List.append_assoc]

def Env.drew (E : Env) : Env := { E with w := E.w.drew }

theorem held_drew (E : Env) : Held E.w E.Pr E.drew.w E.drew.Pr := fun _ _ hp => ⟨hp, rfl⟩
theorem keeps_drew (E : Env) (l : Loc) (s : Nat) : Keeps1 E E.drew l l s := by
  by_cases hd : l s = .dead
  · exact .inl hd
  · exact .inr ⟨hd, rfl, rfl, .same rfl⟩

theorem good_drew (hG : Good P A E l pend) : Good P A E.drew l pend :=
  ⟨fun s hp => (hG.obj s hp).keep (held_drew E) rfl rfl (fun _ _ => rfl) fun _ _ _ _ hu => hu.mono0 (held_drew E) (keeps_drew E l), hG.pnd, hG.inj, hG.base, hG.prot, hG.jstep rfl rfl (held_drew E) (fun _ _ h => .inl h) (fun _ _ => rfl) (Nat.le_refl _) rfl rfl rfl, hG.pr0.trans (held_drew E), hG.prN, hG.size, hG.os, hG.tape, hG.output, hG.yok, hG.yown, hG.ylt, hG.dm⟩

theorem rv_drew {y : V} {v : Value} (hy : RV P E l y v) : RV P E.drew l y v := hy.mono0 (held_drew E) (keeps_drew E l)

theorem size_zeroCells2 (z : Array Value) (n : Nat) : (Builtin.zeroCells z n).toList.length = n * z.size := by simp [Builtin.zeroCells]

/-- A grown slice: a new block. -/
theorem up_grown {d : Nat} {e : TypeId} {i : TypeInfo} {z : Value} (hi : P.info? e = some i) (hzs : z.cells.size = i.size) (hs0 : i.size ≠ 0) (hG : Good P A E l pend) (hdead : l d = .dead) (hd : ¬ pend d) (href : ∀ s' t x, l s' = .rf t x → x.at d = false)
    {cs : List C} {olds : List Value} (hc : RCs E.w E.Pr cs olds) {n cap : Nat} (hl : cs.length = n * i.size) (hcap : n ≤ cap) (hcm : cap ≤ maxLen) {fz : Nat} (hfz : fz ≤ cs.length) {ob : Obj} (ho : ob = .ob e fz cs ∨ ob = .sb e fz cs) :
    Up P A E l pend (.own d 0 n) (l.put d ob) [d] (.slice (some ⟨E.w.heap.size, 0, none⟩) n cap) (E.w.drew.alloc (.cells (olds ++ (Builtin.zeroCells z.cells (cap - n)).toList).toArray e)) := by
  have hG1 := good_drew hG
  have hsz : (olds ++ (Builtin.zeroCells z.cells (cap - n)).toList).toArray.size = cap * i.size := by
    rw [List.size_toArray, List.length_append, size_zeroCells2, hc.len, hl, hzs, ← Nat.add_mul]; congr 1; omega
  have hG2 := hG1.new (s := d) (pend' := pend) (.inl ⟨hdead, fun _ => Iff.rfl⟩) (cur := (olds ++ (Builtin.zeroCells z.cells (cap - n)).toList).toArray) (t := e) (cs := cs) ho hfz (by rw [hsz, hl]; exact Nat.mul_le_mul_right _ hcap)
    (by rw [show ((olds ++ (Builtin.zeroCells z.cells (cap - n)).toList).toArray.toList).take cs.length = olds by rw [← hc.len]; simp]; exact hc.held (held_drew E)) href
  refine ⟨_, rfl, ⟨hG2, rfl⟩, ?_, fun y v hy hk => ?_⟩
  · refine .own (g := E.w.heap.size) (t := e) (fz := fz) (cs := cs) (by simp [Env.new]; rfl) (by rw [put_same]; rcases ho with rfl | rfl <;> rfl) hcap hcm ?_
    rw [szOf_info hi]
    simp only [Env.new, if_pos, Nat.zero_add, hsz]
  · exact (rv_drew hy).mono (fun s => s = d) (held_alloc _ _ _ fun b k hp => (hG1.prot b k hp).1) (fun s hs => Keeps1.new hG1 d _ e ob hs) (fun s hs => by subst hs; exact hk s (by simp))

theorem Up.of_kill {s : Nat} {x : V} {l' : Loc} {ks ks' : List Nat} {u : Value} {w' : World} (h : Up P A (E.kill l s) (l.kill s) pend x l' ks u w') (hk : ∀ a ∈ ks, a ∈ ks') : Up P A E l pend x l' ks' u w' := by
  obtain ⟨E', h1, h2, h3, h4⟩ := h
  exact ⟨E', h1, h2, h3, fun y v hy hk' => h4 y v (rv_kill s hy) fun a ha => hk' a (hk a ha)⟩

theorem op_append (hG : Good P A E l pend) {cf : Cfg} (hP : cf.P = P) {c : Call} {T : TypeId} {d : Nat} {a b : Operand} (ho : o.op = .call c) (hc1 : c.callee = .builtin .append) (hc2 : c.args = #[a, b]) (hc3 : c.argTypes = #[T, T]) (hd : ¬ pend d)
    {x y : V} {u v : Value} (hx : RV P E l x u) (hy : RV P E l y v) (hu : ρ a = u) (hv : ρ b = v) (h0 : appendK cf T x y d l k = some r) : Sound P A E l pend ((execOp ρ o).run P E.w) k r := by
  have key : ∀ q w', (Builtin.append_ #[T, T] o.type #[u, v]).run P E.w = .ok q w' → (execOp ρ o).run P E.w = .ok (.value q) w' := by
    intro q w' h
    simp [execOp, ho, resolve, hc1, hc2, hc3, invoke, builtin, hu, hv, h]
  unfold appendK at h0
  rw [hP] at h0
  split at h0
  case h_2 => cases h0
  case h_1 e hT =>
    split at h0
    case h_2 => cases h0
    case h_1 i zs hi hz =>
      obtain ⟨i', z, hi', hiz, hrun, hlen, hrc⟩ := zeroCs_run hz E.w
      rw [hi] at hi'; injection hi' with hi'; subst hi'
      have hzs : z.cells.size = i.size := by have := (hrc E.w E.Pr).len; simp at this; omega
      obtain ⟨m, news, us, hk, hnl, hrcs, hlo, ⟨a', c', hv2⟩, hfc⟩ := newsK_sound hG hy h0
      rw [szOf_info hi] at hnl hfc
      subst hv2
      have husl : us.length = m * i.size := by rw [hrcs.len, hnl]
      -- a nil source
      have hnil : ∀ (ks : List Nat), d ∈ ks → u = .slice none 0 0 → i.size ≠ 0 → m * i.bytes ≤ 140737488355328 → m ≤ 140737488355328 → ∀ {E1 : Env} {l1 : Loc}, Good P A E1 l1 pend → E1.D = E.D → E1.w = E.w → E1.Pr = E.Pr → (∀ y v, RV P E l y v → RV P E1 l1 y v) →
          k (.own d 0 m) ((l1.kill d).put d (.sb e 0 news)) ks = some r → Sound P A E l pend ((execOp ρ o).run P E.w) k r := by
        intro ks hdk hun hs0 hby hm E1 l1 hG1 hDD hw hPr hrv hk
        by_cases hm0 : m = 0
        · subst hm0
          have hn0 : news = [] := List.eq_nil_of_length_eq_zero (by simpa using hnl)
          subst hn0
          have hus0 : us = [] := List.eq_nil_of_length_eq_zero (by simpa using husl)
          subst hus0
          rw [key (.slice none 0 0) E.w (by rw [hun]; exact run_append_nilnil hT hi (hfc E.w rfl))]
          have hGk := hG1.kill hd
          obtain ⟨q1, q2⟩ := good_nil hGk (kill_at d l1) hd e (kill_ref d l1)
          refine ⟨_, _, _, hk, E1.kill l1 d, hw, ⟨q1, hDD⟩, .ownNil (fz := 0) (kill_rho_self E1 l1 d) (put_same _ _ _), fun y v hy hkk => ?_⟩
          exact (rv_kill d (hrv y v hy)).mono (fun s => s = d) (.refl _ _) (fun s hs => q2 s hs) (fun s hs => by subst hs; exact hkk s hdk)
        · have hr := run_append_grows (ty := o.type) hT hi hiz (w := E.w) (n := 0) (cap := 0) (m := m) (c := c') (a := a') (b := none) (olds := []) (us := us) (by simp [Builtin.firstCells]) (hfc E.w.drew rfl) (by omega) (by omega)
            (growslice_fits (by omega) (by simpa using hby))
          simp only [Nat.zero_add, List.nil_append] at hr
          rw [key _ _ (by rw [hun]; exact hr)]
          have hcm := grownCap_le_maxLen E.w m 0 e (by unfold maxLen; omega)
          have hge := grownCap_ge E.w m 0 e
          have hup := up_grown (P := P) (A := A) (pend := pend) (E := E1.kill l1 d) (l := l1.kill d) (d := d) hi hzs hs0 (hG1.kill hd) (kill_at d l1) hd (kill_ref d l1) (cs := news) (olds := us) (by show RCs E1.w E1.Pr news us; rw [hw, hPr]; exact hrcs) hnl hge hcm (fz := 0) (Nat.zero_le _) (ob := .sb e 0 news) (.inr rfl)
          have hw' : (E1.kill l1 d).w = E.w := hw
          rw [hw'] at hup
          obtain ⟨E', h1, h2, h3, h4⟩ := hup
          exact ⟨_, _, _, hk, E', h1, ⟨h2.1, h2.2.trans hDD⟩, h3, fun y v hy hkk => h4 y v (rv_kill d (hrv y v hy)) fun s hs => by simp at hs; subst hs; exact hkk s hdk⟩
      split at hk
      case h_3 => cases hk
      case h_1 =>
        obtain ⟨hb, hk⟩ := need_some hk
        simp only [Bool.and_eq_true] at hb
        have hs0 : i.size ≠ 0 := by intro e; rw [e] at hb; cases hb.1.1
        cases hx with | c hc =>
        cases hc with
        | nl => exact hnil [d] (by simp) rfl hs0 (Nat.le_of_ble_eq_true hb.1.2) (Nat.le_of_ble_eq_true hb.2) hG rfl rfl rfl (fun _ _ h => h) hk
      case h_2 s' off n =>
        have hmain : ∀ t' fz cs (mk : List C → Obj), objTC (l s') = some (t', fz, cs) → (∀ q, mk q = .ob e fz q ∨ mk q = .sb e fz q) → (fz = 0 → ∀ t f, l s' = .sb t f [] → ∀ q, mk q = .sb e 0 q) →
            need (Nat.beq t' e && Nat.beq off 0 && Nat.beq (n * i.size) cs.length && (!Nat.beq i.size 0) && Nat.ble ((n + m) * i.bytes) 140737488355328 && Nat.ble (n + m) 140737488355328)
              (k (.own d 0 (n + m)) (((l.kill s').kill d).put d (mk (cs ++ news))) [s', d]) = some r → Sound P A E l pend ((execOp ρ o).run P E.w) k r := by
          intro t' fz cs mk hl hmk hmk0 h
          obtain ⟨hb, hkq⟩ := need_some h
          simp only [Bool.and_eq_true] at hb
          obtain ⟨⟨⟨⟨⟨hb1, hb2⟩, hb3⟩, hb4⟩, hb5⟩, hb6⟩ := hb
          have ht : t' = e := Nat.eq_of_beq_eq_true hb1
          have hoff : off = 0 := Nat.eq_of_beq_eq_true hb2
          have hcl : n * i.size = cs.length := Nat.eq_of_beq_eq_true hb3
          have hs0 : i.size ≠ 0 := by intro e; rw [e] at hb4; cases hb4
          have hby := Nat.le_of_ble_eq_true hb5
          have hm := Nat.le_of_ble_eq_true hb6
          subst ht hoff
          have hps : ¬ pend s' := by
            intro hp
            have := hG.pnd s' hp
            obtain ⟨h1, _, _, h2⟩ := this
            cases hx with
            | ownDead hd => rw [hd] at hl; cases hl
            | ownRf hd => rw [hd] at hl; cases hl
            | ownNil _ h3 => rw [h2] at h3; cases h3
            | own hr _ _ _ _ => rw [h1] at hr; cases hr
            | own0 hr _ _ => rw [h1] at hr; cases hr
          cases hx with
          | ownDead hd => rw [hd] at hl; cases hl
          | ownRf hd => rw [hd] at hl; cases hl
          | own0 _ _ hq => exact absurd rfl hq
          | ownNil hr hl2 =>
            rw [hl2] at hl
            injection hl with hl; injection hl with e1 e2; injection e2 with e2 e3; subst e1 e3
            simp only [Nat.zero_add, List.nil_append] at hkq hby hm
            have hfz0 : fz = 0 := by
              have h0 := hG.obj s' hps
              rw [hl2] at h0
              cases h0 with
              | sbNil _ => exact e2.symm
              | sb h1 _ _ => rw [h1] at hr; cases hr
            rw [hmk0 hfz0 _ _ hl2] at hkq
            exact hnil [s', d] (by simp) rfl hs0 hby hm (hG.kill hps) rfl rfl rfl (fun _ _ h => rv_kill s' h) hkq
          | @own _ _ _ g cap t2 fz2 cs2 hr hl2 hn hc hs =>
            rw [hl] at hl2; injection hl2 with hl2; injection hl2 with e1 e2; injection e2 with e2 e3; subst e1 e2 e3
            obtain ⟨⟨cur, hg, hbs, hclc, hcc⟩, hfl⟩ := blk_of hG hl hr
            rw [szOf_info hi, Nat.zero_add] at hs
            have hG1 := hG.kill hps
            have hG2 := hG1.kill hd
            have hfzc : fz ≤ (cs ++ news).length := by simp; omega
            have hcn : (cs ++ news).length = (n + m) * i.size := by rw [List.length_append, hnl, ← hcl, Nat.add_mul]
            by_cases hroom : n + m ≤ cap
            · have hfit : n * i.size + us.length ≤ cur.size := by rw [husl, hbs, ← hs, ← Nat.add_mul]; exact Nat.mul_le_mul_right _ hroom
              rw [key _ _ (run_append_fits hT hi (hfc E.w rfl) hroom hg hfit hrcs.ones)]
              let cur' : Array Value := (cur.toList.take (n * i.size) ++ us ++ cur.toList.drop (n * i.size + us.length)).toArray
              have hcs : cur'.size = cur.size := by simp [cur']; omega
              have hno : ∀ a, ((E.kill l s').kill (Loc.kill s' l) d).rho a ≠ some g := by
                intro a ha
                have h1 := kill_rho ha
                have h2 := kill_rho h1
                have h3 := hG.inj a s' g h2 hr
                subst h3
                rw [kill_rho_self] at h1; cases h1
              have hprot : ∀ k, E.Pr g k → k < fz := by
                intro k hp
                have h1 := (hG.prot g k hp).2 s' hr
                have h2 : (l s').fz = fz := by rcases objTC_cases hl with e | e <;> rw [e] <;> rfl
                rwa [h2] at h1
              have hadopt := good_adopt (P := P) (A := A) hG2 (d := d) (g := g) (kill_at d _) hd hno (hG.yown s' g hr) (hG.base s' g hr) (cur := cur) (cur' := cur') (t := t') hg hcs (fz := fz) hprot (fun j hj => by
                  have hjc : j < cur.size := by omega
                  simp only [cur', List.getElem?_toArray]
                  rw [List.append_assoc, List.getElem?_append_left (by simp; omega), List.getElem?_take, if_pos (by omega)]
                  simp) (cs := cs ++ news) (ob := mk (cs ++ news)) (hmk _) hfzc (by rw [hcn, hcs, hbs, ← hs]; exact Nat.mul_le_mul_right _ hroom) (by
                  have h1 := hcc.append hrcs
                  have h2 : cur'.toList.take (cs ++ news).length = cur.toList.take cs.length ++ us := by
                    simp only [cur', List.length_append]
                    rw [hcl, ← hrcs.len, List.take_append_of_le_length (by simp; omega), List.take_of_length_le (by simp; omega)]
                  rw [h2]; exact h1) (kill_ref d _)
              obtain ⟨q1, q2, q3⟩ := hadopt
              refine ⟨_, _, _, hkq, _, rfl, ⟨q1, rfl⟩, .own (g := g) (t := t') (fz := fz) (cs := cs ++ news) (by simp [Env.adopt]) (by rw [put_same]; rcases hmk (cs ++ news) with e | e <;> rw [e] <;> rfl) hroom hc (by rw [szOf_info hi]; simp [Env.adopt]; rw [hs, ← hbs]; exact hcs.symm), fun y v hy hkk => ?_⟩
              exact (rv_kill d (rv_kill s' hy)).mono (fun s => s = d) q2 (fun s hs => q3 s hs) (fun s hs => by subst hs; exact hkk s (by simp))
            · have hcc2 : (cur.toList.take cs.length).length = n * i.size := by rw [hcc.len, hcl]
              have hcells : ∀ j v, (cur.toList.take cs.length)[j]? = some v → E.w.drew.cell? ((⟨g, 0, none⟩ : Addr).add j) = some v := by
                intro j v hj
                rw [add_none, Nat.zero_add]
                rw [List.getElem?_take] at hj
                split at hj
                · show E.w.cell? _ = _
                  rw [cell_of_row _ g j cur t' (0, 0) hg]; simpa using hj
                · cases hj
              have hfo := run_firstCells_some (P := P) E.w.drew i.size n ⟨g, 0, none⟩ n cap (cur.toList.take cs.length) hcc2 hcells
              have hr' := run_append_grows (ty := o.type) hT hi hiz (w := E.w) (n := n) (cap := cap) (m := m) (c := c') (a := a') (b := some ⟨g, 0, none⟩) (us := us) hfo (hfc E.w.drew rfl) (by omega) (by omega) (growslice_fits (by omega) hby)
              rw [key _ _ hr']
              have hcm := grownCap_le_maxLen E.w (n + m) cap t' (by unfold maxLen; omega)
              have hge := grownCap_ge E.w (n + m) cap t'
              have hup := up_grown (P := P) (A := A) (pend := pend) (d := d) hi hzs hs0 hG2 (kill_at d _) hd (kill_ref d _) (cs := cs ++ news) (olds := cur.toList.take cs.length ++ us) (hcc.append hrcs) hcn hge hcm (fz := fz) hfzc (ob := mk (cs ++ news)) (hmk _)
              obtain ⟨E', h1, h2, h3, h4⟩ := hup
              exact ⟨_, _, _, hkq, E', h1, h2, h3, fun y v hy hkk => h4 y v (rv_kill d (rv_kill s' hy)) fun s hs => by simp at hs; subst hs; exact hkk s (by simp)⟩
        split at hk
        · rename_i t' fz cs hl
          exact hmain t' fz cs (fun q => .ob e fz q) (by rw [hl]; rfl) (fun _ => .inl rfl) (fun _ _ _ h => by rw [hl] at h; cases h) hk
        · rename_i t' fz cs hl
          exact hmain t' fz cs (fun q => .sb e fz q) (by rw [hl]; rfl) (fun _ => .inr rfl) (fun h0 _ _ _ _ => by rw [h0]) hk
        · cases hk

theorem run_append_make {t t' ty e : TypeId} {kd kd' : IntKind} {i : TypeInfo} {z : Value} (ht : P.underlying t = some (.slice e)) (ht' : P.underlying t' = some (.int kd)) (hi : P.info? e = some i) (hz : i.zero = some z) {w : World} {n : Int} (hn : 0 < n) (hn2 : n ≤ 140737488355328)
    (hs0 : i.size ≠ 0) (hby : (i.bytes : Int) * n ≤ 140737488355328) :
    (Builtin.append_ #[t, t'] ty #[.slice none 0 0, .int kd' n]).run P w = .ok (.slice (some ⟨w.heap.size, 0, none⟩) n.toNat (grownCap w n.toNat 0 e))
      (w.drew.alloc (.cells ((Builtin.zeroCells z.cells n.toNat).toList ++ (Builtin.zeroCells z.cells (grownCap w n.toNat 0 e - n.toNat)).toList).toArray e)) := by
  obtain ⟨m, rfl⟩ : ∃ m : Nat, n = m := ⟨n.toNat, by omega⟩
  have w1 : IntKind.i64.wrap (m : Int) = m := wrap_small (by omega) hn2
  have hm : ¬ m ≤ 0 := by omega
  have h48 : ¬ ((2 : Int) ^ 48 < (m : Int) * (i.bytes : Int)) := by
    have : (2 : Int) ^ 48 = 281474976710656 := by decide
    rw [this, Int.mul_comm]; omega
  have h0 : ¬ ((m : Int) < 0) := by omega
  have hmz : ¬ (m * i.size = 0) := by
    intro h
    rcases Nat.mul_eq_zero.1 h with h | h <;> omega
  have h63 : ¬ ((9223372036854775807 : Int) < (m : Int)) := by omega
  have e1 : ((m * i.bytes : Nat) : Int) = (i.bytes : Int) * m := by rw [Int.natCast_mul, Int.mul_comm]
  have hfit : ¬ (281474976710656 < Builtin.nextslicecap m 0 * i.bytes) := by
    have := growslice_fits (bytes := i.bytes) (need := m) (old := 0) (by omega) (by omega)
    omega
  simp [Builtin.append_, run_underlying ht, run_underlying ht', sizeOf, typeInfo, zeroValue, hi, hz, asInt, asIntOf, w1, h0, h48, hm, hmz, h63, hfit, Question.forced, newRow, grownCap, Builtin.firstCells]
  have h48' : ¬ (281474976710656 < (m : Int) * (i.bytes : Int)) := by rw [Int.mul_comm]; omega
  have hm0 : ¬ m = 0 := by omega
  rw [if_neg h48', if_neg hm0]
  congr 2
  congr 1; apply Array.ext'
  simp

theorem op_appMake (hG : Good P A E l pend) {c : Call} {T T' : TypeId} {d : Nat} {a b : Operand} (ho : o.op = .call c) (hc1 : c.callee = .builtin .append) (hc2 : c.args = #[a, b]) (hc3 : c.argTypes = #[T, T']) (hd : ¬ pend d)
    {x y : V} {u v : Value} (hx : RV P E l x u) (hy : RV P E l y v) (hu : ρ a = u) (hv : ρ b = v) (h0 : appMakeK P l k T T' x y d = some r) : Sound P A E l pend ((execOp ρ o).run P E.w) k r := by
  unfold appMakeK at h0
  split at h0
  case h_2 => cases h0
  case h_1 e kd n hT hT' hn =>
    obtain ⟨kd', rfl⟩ := idxI_eq hn hy
    cases hx with | c hc => cases hc with | nl =>
    split at h0
    case h_2 => cases h0
    case h_1 i zs hi hz =>
      obtain ⟨hb, hk⟩ := need_some h0
      simp only [Bool.and_eq_true, decide_eq_true_iff] at hb
      obtain ⟨⟨⟨hb1, hb2⟩, hb3⟩, hb5⟩ := hb
      have hs0 : i.size ≠ 0 := by intro e; rw [e] at hb5; cases hb5
      obtain ⟨i', z, hi', hiz, hrun, hlen, hrc⟩ := zeroCs_run hz E.w
      rw [hi] at hi'; injection hi' with hi'; subst hi'
      have hzs : z.cells.size = i.size := by have := (hrc E.w E.Pr).len; simp at this; omega
      have hr := run_append_make (ty := o.type) (kd' := kd') hT hT' hi hiz (w := E.w) hb1 hb3 hs0 hb2
      have hrun2 : (execOp ρ o).run P E.w = .ok (.value (.slice (some ⟨E.w.heap.size, 0, none⟩) n.toNat (grownCap E.w n.toNat 0 e)))
          (E.w.drew.alloc (.cells ((Builtin.zeroCells z.cells n.toNat).toList ++ (Builtin.zeroCells z.cells (grownCap E.w n.toNat 0 e - n.toNat)).toList).toArray e)) := by
        simp [execOp, ho, resolve, hc1, hc2, hc3, invoke, builtin, hu, hv, hr]
      rw [hrun2]
      have hcm := grownCap_le_maxLen E.w n.toNat 0 e (by unfold maxLen; omega)
      have hge := grownCap_ge E.w n.toNat 0 e
      have hz1 : (Builtin.zeroCells z.cells n.toNat).toList = ((Array.range (n.toNat * i.size)).map (z.cells[· % z.cells.size]!)).toList := by simp [Builtin.zeroCells, hzs]
      have hrcs : RCs E.w E.Pr (reps n.toNat zs) (Builtin.zeroCells z.cells n.toNat).toList := by
        rw [hz1, ← hlen]
        exact reps_rcs (hrc E.w E.Pr) n.toNat (.inr trivial)
      have hup := up_grown (P := P) (A := A) (pend := pend) (E := E.kill l d) (l := l.kill d) (d := d) hi hzs hs0 (hG.kill hd) (kill_at d l) hd (kill_ref d l) (cs := reps n.toNat zs) (olds := (Builtin.zeroCells z.cells n.toNat).toList) hrcs (by rw [reps_length, hlen]) hge hcm (fz := 0) (Nat.zero_le _) (ob := .sb e 0 (reps n.toNat zs)) (.inr rfl)
      obtain ⟨E', h1, h2, h3, h4⟩ := hup
      exact ⟨_, _, _, hk, E', h1, ⟨h2.1, h2.2⟩, h3, fun y v hy hkk => h4 y v (rv_kill d hy) fun s hs => by simp at hs; subst hs; exact hkk s (by simp)⟩

end
end Go.PM
