/- The pure machine, a part: PMn, PMoa, PMo, PMp, PMq, PMr, PMs, PMt, PMu, PMv, PMw. -/
import Derived.Test.YtjdafdibghfdhaaDoorPMm
import Derived.Orders
import Derived.Tactics
set_option linter.unusedSimpArgs false
set_option linter.unusedVariables false
/- The pure machine: append, the operation. -/
namespace Go.PM
open Go

variable {P : Program}

section
variable {A : Fr} {E : Env} {l : Loc} {pend : Nat → Prop} {R : Type} {k : V → Loc → List Nat → Option R} {r : R} {o : Oper} {ρ : Operand → Value}

theorem run_append_fits {t ty e : TypeId} {i : TypeInfo} (ht : P.underlying t = some (.slice e)) (hi : P.info? e = some i) {w : World} {g n cap m c : Nat} {a : Option Addr} {us : List Value} {cur : Array Value}
    (hfc : (Builtin.firstCells i.size m (.slice a m c)).run P w = .ok us.toArray w) (hroom : n + m ≤ cap)
    (hg : w.heap[g]? = some (.cells cur e (0, 0))) (hus : n * i.size + us.length ≤ cur.size) (h1 : ∀ u ∈ us, u.oneCell' = true) :
    (Builtin.append_ #[t, t] ty #[.slice (some ⟨g, 0, none⟩) n cap, .slice a m c]).run P w = .ok (.slice (some ⟨g, 0, none⟩) (n + m) cap) (w.setRow g (cur.toList.take (n * i.size) ++ us ++ cur.toList.drop (n * i.size + us.length)).toArray) := by
  have hst := run_storeCells_at P g (n * i.size) e us 0 cur w hg (by simpa using hus) h1
  simp only [Nat.add_zero] at hst
  simp [Builtin.append_, run_underlying ht, sizeOf, typeInfo, hi, Builtin.lenOf, hroom, hfc, add_none, hst]

theorem run_append_nilnil {t ty e : TypeId} {i : TypeInfo} (ht : P.underlying t = some (.slice e)) (hi : P.info? e = some i) {w : World} {c : Nat} {a : Option Addr}
    (hfc : (Builtin.firstCells i.size 0 (.slice a 0 c)).run P w = .ok #[] w) : (Builtin.append_ #[t, t] ty #[.slice none 0 0, .slice a 0 c]).run P w = .ok (.slice none 0 0) w := by
  simp [Builtin.append_, run_underlying ht, sizeOf, typeInfo, hi, Builtin.lenOf, hfc]

theorem run_append_grows {t ty e : TypeId} {i : TypeInfo} {z : Value} (ht : P.underlying t = some (.slice e)) (hi : P.info? e = some i) (hz : i.zero = some z) {w : World} {n cap m c : Nat} {a b : Option Addr} {olds us : List Value}
    (hfo : (Builtin.firstCells i.size n (.slice b n cap)).run P w.drew = .ok olds.toArray w.drew) (hfc : (Builtin.firstCells i.size m (.slice a m c)).run P w.drew = .ok us.toArray w.drew) (hroom : cap < n + m)
    (h63 : n + m ≤ 9223372036854775807) (hfit : Builtin.nextslicecap (n + m) cap * i.bytes ≤ 281474976710656) :
    (Builtin.append_ #[t, t] ty #[.slice b n cap, .slice a m c]).run P w = .ok (.slice (some ⟨w.heap.size, 0, none⟩) (n + m) (grownCap w (n + m) cap e))
      (w.drew.alloc (.cells (olds ++ us ++ (Builtin.zeroCells z.cells (grownCap w (n + m) cap e - (n + m))).toList).toArray e)) := by
  have hn : ¬ (n + m ≤ cap) := by omega
  have h63' : ¬ (9223372036854775807 < ((n : Int) + (m : Int))) := by omega
  have hfit' : ¬ (281474976710656 < Builtin.nextslicecap (n + m) cap * i.bytes) := by omega
  simp [Builtin.append_, run_underlying ht, sizeOf, typeInfo, zeroValue, hi, hz, Builtin.lenOf, hn, h63', hfit', Question.forced, newRow, grownCap, hfo, hfc]
  congr 2
  apply Array.ext'
  simp [List.append_assoc]

def Env.drew (E : Env) : Env := { E with w := E.w.drew }

theorem held_drew (E : Env) : Held E.w E.Pr E.drew.w E.drew.Pr := fun _ _ hp => ⟨hp, rfl⟩
theorem keeps_drew (E : Env) (l : Loc) (s : Nat) : Keeps1 E E.drew l l s := by
  by_cases hd : l s = .dead
  · exact .inl hd
  · exact .inr ⟨hd, rfl, rfl, .same rfl⟩

theorem good_drew (hG : Good P A E l pend) : Good P A E.drew l pend :=
  ⟨fun s hp => (hG.obj s hp).keep (held_drew E) rfl rfl (fun _ _ => rfl) fun _ _ _ _ hu => hu.mono0 (held_drew E) (keeps_drew E l), hG.pnd, hG.inj, hG.base, hG.prot, hG.jstep rfl rfl (held_drew E) (fun _ _ h => .inl h) (fun _ _ => rfl) (Nat.le_refl _) rfl rfl rfl, hG.pr0.trans (held_drew E), hG.prN, hG.size, hG.os, hG.tape, hG.output, hG.yok, hG.yown, hG.ylt, hG.dm⟩

theorem rv_drew {y : V} {v : Value} (hy : RV P E l y v) : RV P E.drew l y v := hy.mono0 (held_drew E) (keeps_drew E l)

theorem size_zeroCells2 (z : Array Value) (n : Nat) : (Builtin.zeroCells z n).toList.length = n * z.size := by simp [Builtin.zeroCells]

/-- A grown slice: a new block. -/
theorem up_grown {d : Nat} {e : TypeId} {i : TypeInfo} {z : Value} (hi : P.info? e = some i) (hzs : z.cells.size = i.size) (hs0 : i.size ≠ 0) (hG : Good P A E l pend) (hdead : l d = .dead) (hd : ¬ pend d) (href : ∀ s' t x, l s' = .rf t x → x.at d = false)
    {cs : List C} {olds : List Value} (hc : RCs E.w E.Pr cs olds) {n cap : Nat} (hl : cs.length = n * i.size) (hcap : n ≤ cap) (hcm : cap ≤ maxLen) {fz : Nat} (hfz : fz ≤ cs.length) {ob : Obj} (ho : ob = .ob e fz cs ∨ ob = .sb e fz cs) :
    Up P A E l pend (.own d 0 n) (l.put d ob) [d] (.slice (some ⟨E.w.heap.size, 0, none⟩) n cap) (E.w.drew.alloc (.cells (olds ++ (Builtin.zeroCells z.cells (cap - n)).toList).toArray e)) := by
  have hG1 := good_drew hG
  have hsz : (olds ++ (Builtin.zeroCells z.cells (cap - n)).toList).toArray.size = cap * i.size := by
    rw [List.size_toArray, List.length_append, size_zeroCells2, hc.len, hl, hzs, ← Nat.add_mul]; congr 1; omega
  have hG2 := hG1.new (s := d) (pend' := pend) (.inl ⟨hdead, fun _ => Iff.rfl⟩) (cur := (olds ++ (Builtin.zeroCells z.cells (cap - n)).toList).toArray) (t := e) (cs := cs) ho hfz (by rw [hsz, hl]; exact Nat.mul_le_mul_right _ hcap)
    (by rw [show ((olds ++ (Builtin.zeroCells z.cells (cap - n)).toList).toArray.toList).take cs.length = olds by rw [← hc.len]; simp]; exact hc.held (held_drew E)) href
  refine ⟨_, rfl, ⟨hG2, rfl⟩, ?_, fun y v hy hk => ?_⟩
  · refine .own (g := E.w.heap.size) (t := e) (fz := fz) (cs := cs) (by simp [Env.new]; rfl) (by rw [put_same]; rcases ho with rfl | rfl <;> rfl) hcap hcm ?_
    rw [szOf_info hi]
    simp only [Env.new, if_pos, Nat.zero_add, hsz]
  · exact (rv_drew hy).mono (fun s => s = d) (held_alloc _ _ _ fun b k hp => (hG1.prot b k hp).1) (fun s hs => Keeps1.new hG1 d _ e ob hs) (fun s hs => by subst hs; exact hk s (by simp))

theorem Up.of_kill {s : Nat} {x : V} {l' : Loc} {ks ks' : List Nat} {u : Value} {w' : World} (h : Up P A (E.kill l s) (l.kill s) pend x l' ks u w') (hk : ∀ a ∈ ks, a ∈ ks') : Up P A E l pend x l' ks' u w' := by
  obtain ⟨E', h1, h2, h3, h4⟩ := h
  exact ⟨E', h1, h2, h3, fun y v hy hk' => h4 y v (rv_kill s hy) fun a ha => hk' a (hk a ha)⟩

theorem op_append (hG : Good P A E l pend) {cf : Cfg} (hP : cf.P = P) {c : Call} {T : TypeId} {d : Nat} {a b : Operand} (ho : o.op = .call c) (hc1 : c.callee = .builtin .append) (hc2 : c.args = #[a, b]) (hc3 : c.argTypes = #[T, T]) (hd : ¬ pend d)
    {x y : V} {u v : Value} (hx : RV P E l x u) (hy : RV P E l y v) (hu : ρ a = u) (hv : ρ b = v) (h0 : appendK cf T x y d l k = some r) : Sound P A E l pend ((execOp ρ o).run P E.w) k r := by
  have key : ∀ q w', (Builtin.append_ #[T, T] o.type #[u, v]).run P E.w = .ok q w' → (execOp ρ o).run P E.w = .ok (.value q) w' := by
    intro q w' h
    simp [execOp, ho, resolve, hc1, hc2, hc3, invoke, builtin, hu, hv, h]
  unfold appendK at h0
  rw [hP] at h0
  split at h0
  case h_2 => cases h0
  case h_1 e hT =>
    split at h0
    case h_2 => cases h0
    case h_1 i zs hi hz =>
      obtain ⟨i', z, hi', hiz, hrun, hlen, hrc⟩ := zeroCs_run hz E.w
      rw [hi] at hi'; injection hi' with hi'; subst hi'
      have hzs : z.cells.size = i.size := by have := (hrc E.w E.Pr).len; simp at this; omega
      obtain ⟨m, news, us, hk, hnl, hrcs, hlo, ⟨a', c', hv2⟩, hfc⟩ := newsK_sound hG hy h0
      rw [szOf_info hi] at hnl hfc
      subst hv2
      have husl : us.length = m * i.size := by rw [hrcs.len, hnl]
      -- a nil source
      have hnil : ∀ (ks : List Nat), d ∈ ks → u = .slice none 0 0 → i.size ≠ 0 → m * i.bytes ≤ 140737488355328 → m ≤ 140737488355328 → ∀ {E1 : Env} {l1 : Loc}, Good P A E1 l1 pend → E1.D = E.D → E1.w = E.w → E1.Pr = E.Pr → (∀ y v, RV P E l y v → RV P E1 l1 y v) →
          k (.own d 0 m) ((l1.kill d).put d (.sb e 0 news)) ks = some r → Sound P A E l pend ((execOp ρ o).run P E.w) k r := by
        intro ks hdk hun hs0 hby hm E1 l1 hG1 hDD hw hPr hrv hk
        by_cases hm0 : m = 0
        · subst hm0
          have hn0 : news = [] := List.eq_nil_of_length_eq_zero (by simpa using hnl)
          subst hn0
          have hus0 : us = [] := List.eq_nil_of_length_eq_zero (by simpa using husl)
          subst hus0
          rw [key (.slice none 0 0) E.w (by rw [hun]; exact run_append_nilnil hT hi (hfc E.w rfl))]
          have hGk := hG1.kill hd
          obtain ⟨q1, q2⟩ := good_nil hGk (kill_at d l1) hd e (kill_ref d l1)
          refine ⟨_, _, _, hk, E1.kill l1 d, hw, ⟨q1, hDD⟩, .ownNil (fz := 0) (kill_rho_self E1 l1 d) (put_same _ _ _), fun y v hy hkk => ?_⟩
          exact (rv_kill d (hrv y v hy)).mono (fun s => s = d) (.refl _ _) (fun s hs => q2 s hs) (fun s hs => by subst hs; exact hkk s hdk)
        · have hr := run_append_grows (ty := o.type) hT hi hiz (w := E.w) (n := 0) (cap := 0) (m := m) (c := c') (a := a') (b := none) (olds := []) (us := us) (by simp [Builtin.firstCells]) (hfc E.w.drew rfl) (by omega) (by omega)
            (growslice_fits (by omega) (by simpa using hby))
          simp only [Nat.zero_add, List.nil_append] at hr
          rw [key _ _ (by rw [hun]; exact hr)]
          have hcm := grownCap_le_maxLen E.w m 0 e (by unfold maxLen; omega)
          have hge := grownCap_ge E.w m 0 e
          have hup := up_grown (P := P) (A := A) (pend := pend) (E := E1.kill l1 d) (l := l1.kill d) (d := d) hi hzs hs0 (hG1.kill hd) (kill_at d l1) hd (kill_ref d l1) (cs := news) (olds := us) (by show RCs E1.w E1.Pr news us; rw [hw, hPr]; exact hrcs) hnl hge hcm (fz := 0) (Nat.zero_le _) (ob := .sb e 0 news) (.inr rfl)
          have hw' : (E1.kill l1 d).w = E.w := hw
          rw [hw'] at hup
          obtain ⟨E', h1, h2, h3, h4⟩ := hup
          exact ⟨_, _, _, hk, E', h1, ⟨h2.1, h2.2.trans hDD⟩, h3, fun y v hy hkk => h4 y v (rv_kill d (hrv y v hy)) fun s hs => by simp at hs; subst hs; exact hkk s hdk⟩
      split at hk
      case h_3 => cases hk
      case h_1 =>
        obtain ⟨hb, hk⟩ := need_some hk
        simp only [Bool.and_eq_true] at hb
        have hs0 : i.size ≠ 0 := by intro e; rw [e] at hb; cases hb.1.1
        cases hx with | c hc =>
        cases hc with
        | nl => exact hnil [d] (by simp) rfl hs0 (Nat.le_of_ble_eq_true hb.1.2) (Nat.le_of_ble_eq_true hb.2) hG rfl rfl rfl (fun _ _ h => h) hk
      case h_2 s' off n =>
        have hmain : ∀ t' fz cs (mk : List C → Obj), objTC (l s') = some (t', fz, cs) → (∀ q, mk q = .ob e fz q ∨ mk q = .sb e fz q) → (fz = 0 → ∀ t f, l s' = .sb t f [] → ∀ q, mk q = .sb e 0 q) →
            need (Nat.beq t' e && Nat.beq off 0 && Nat.beq (n * i.size) cs.length && (!Nat.beq i.size 0) && Nat.ble ((n + m) * i.bytes) 140737488355328 && Nat.ble (n + m) 140737488355328)
              (k (.own d 0 (n + m)) (((l.kill s').kill d).put d (mk (cs ++ news))) [s', d]) = some r → Sound P A E l pend ((execOp ρ o).run P E.w) k r := by
          intro t' fz cs mk hl hmk hmk0 h
          obtain ⟨hb, hkq⟩ := need_some h
          simp only [Bool.and_eq_true] at hb
          obtain ⟨⟨⟨⟨⟨hb1, hb2⟩, hb3⟩, hb4⟩, hb5⟩, hb6⟩ := hb
          have ht : t' = e := Nat.eq_of_beq_eq_true hb1
          have hoff : off = 0 := Nat.eq_of_beq_eq_true hb2
          have hcl : n * i.size = cs.length := Nat.eq_of_beq_eq_true hb3
          have hs0 : i.size ≠ 0 := by intro e; rw [e] at hb4; cases hb4
          have hby := Nat.le_of_ble_eq_true hb5
          have hm := Nat.le_of_ble_eq_true hb6
          subst ht hoff
          have hps : ¬ pend s' := by
            intro hp
            have := hG.pnd s' hp
            obtain ⟨h1, _, _, h2⟩ := this
            cases hx with
            | ownDead hd => rw [hd] at hl; cases hl
            | ownRf hd => rw [hd] at hl; cases hl
            | ownNil _ h3 => rw [h2] at h3; cases h3
            | own hr _ _ _ _ => rw [h1] at hr; cases hr
            | own0 hr _ _ => rw [h1] at hr; cases hr
          cases hx with
          | ownDead hd => rw [hd] at hl; cases hl
          | ownRf hd => rw [hd] at hl; cases hl
          | own0 _ _ hq => exact absurd rfl hq
          | ownNil hr hl2 =>
            rw [hl2] at hl
            injection hl with hl; injection hl with e1 e2; injection e2 with e2 e3; subst e1 e3
            simp only [Nat.zero_add, List.nil_append] at hkq hby hm
            have hfz0 : fz = 0 := by
              have h0 := hG.obj s' hps
              rw [hl2] at h0
              cases h0 with
              | sbNil _ => exact e2.symm
              | sb h1 _ _ => rw [h1] at hr; cases hr
            rw [hmk0 hfz0 _ _ hl2] at hkq
            exact hnil [s', d] (by simp) rfl hs0 hby hm (hG.kill hps) rfl rfl rfl (fun _ _ h => rv_kill s' h) hkq
          | @own _ _ _ g cap t2 fz2 cs2 hr hl2 hn hc hs =>
            rw [hl] at hl2; injection hl2 with hl2; injection hl2 with e1 e2; injection e2 with e2 e3; subst e1 e2 e3
            obtain ⟨⟨cur, hg, hbs, hclc, hcc⟩, hfl⟩ := blk_of hG hl hr
            rw [szOf_info hi, Nat.zero_add] at hs
            have hG1 := hG.kill hps
            have hG2 := hG1.kill hd
            have hfzc : fz ≤ (cs ++ news).length := by simp; omega
            have hcn : (cs ++ news).length = (n + m) * i.size := by rw [List.length_append, hnl, ← hcl, Nat.add_mul]
            by_cases hroom : n + m ≤ cap
            · have hfit : n * i.size + us.length ≤ cur.size := by rw [husl, hbs, ← hs, ← Nat.add_mul]; exact Nat.mul_le_mul_right _ hroom
              rw [key _ _ (run_append_fits hT hi (hfc E.w rfl) hroom hg hfit hrcs.ones)]
              let cur' : Array Value := (cur.toList.take (n * i.size) ++ us ++ cur.toList.drop (n * i.size + us.length)).toArray
              have hcs : cur'.size = cur.size := by simp [cur']; omega
              have hno : ∀ a, ((E.kill l s').kill (Loc.kill s' l) d).rho a ≠ some g := by
                intro a ha
                have h1 := kill_rho ha
                have h2 := kill_rho h1
                have h3 := hG.inj a s' g h2 hr
                subst h3
                rw [kill_rho_self] at h1; cases h1
              have hprot : ∀ k, E.Pr g k → k < fz := by
                intro k hp
                have h1 := (hG.prot g k hp).2 s' hr
                have h2 : (l s').fz = fz := by rcases objTC_cases hl with e | e <;> rw [e] <;> rfl
                rwa [h2] at h1
              have hadopt := good_adopt (P := P) (A := A) hG2 (d := d) (g := g) (kill_at d _) hd hno (hG.yown s' g hr) (hG.base s' g hr) (cur := cur) (cur' := cur') (t := t') hg hcs (fz := fz) hprot (fun j hj => by
                  have hjc : j < cur.size := by omega
                  simp only [cur', List.getElem?_toArray]
                  rw [List.append_assoc, List.getElem?_append_left (by simp; omega), List.getElem?_take, if_pos (by omega)]
                  simp) (cs := cs ++ news) (ob := mk (cs ++ news)) (hmk _) hfzc (by rw [hcn, hcs, hbs, ← hs]; exact Nat.mul_le_mul_right _ hroom) (by
                  have h1 := hcc.append hrcs
                  have h2 : cur'.toList.take (cs ++ news).length = cur.toList.take cs.length ++ us := by
                    simp only [cur', List.length_append]
                    rw [hcl, ← hrcs.len, List.take_append_of_le_length (by simp; omega), List.take_of_length_le (by simp; omega)]
                  rw [h2]; exact h1) (kill_ref d _)
              obtain ⟨q1, q2, q3⟩ := hadopt
              refine ⟨_, _, _, hkq, _, rfl, ⟨q1, rfl⟩, .own (g := g) (t := t') (fz := fz) (cs := cs ++ news) (by simp [Env.adopt]) (by rw [put_same]; rcases hmk (cs ++ news) with e | e <;> rw [e] <;> rfl) hroom hc (by rw [szOf_info hi]; simp [Env.adopt]; rw [hs, ← hbs]; exact hcs.symm), fun y v hy hkk => ?_⟩
              exact (rv_kill d (rv_kill s' hy)).mono (fun s => s = d) q2 (fun s hs => q3 s hs) (fun s hs => by subst hs; exact hkk s (by simp))
            · have hcc2 : (cur.toList.take cs.length).length = n * i.size := by rw [hcc.len, hcl]
              have hcells : ∀ j v, (cur.toList.take cs.length)[j]? = some v → E.w.drew.cell? ((⟨g, 0, none⟩ : Addr).add j) = some v := by
                intro j v hj
                rw [add_none, Nat.zero_add]
                rw [List.getElem?_take] at hj
                split at hj
                · show E.w.cell? _ = _
                  rw [cell_of_row _ g j cur t' (0, 0) hg]; simpa using hj
                · cases hj
              have hfo := run_firstCells_some (P := P) E.w.drew i.size n ⟨g, 0, none⟩ n cap (cur.toList.take cs.length) hcc2 hcells
              have hr' := run_append_grows (ty := o.type) hT hi hiz (w := E.w) (n := n) (cap := cap) (m := m) (c := c') (a := a') (b := some ⟨g, 0, none⟩) (us := us) hfo (hfc E.w.drew rfl) (by omega) (by omega) (growslice_fits (by omega) hby)
              rw [key _ _ hr']
              have hcm := grownCap_le_maxLen E.w (n + m) cap t' (by unfold maxLen; omega)
              have hge := grownCap_ge E.w (n + m) cap t'
              have hup := up_grown (P := P) (A := A) (pend := pend) (d := d) hi hzs hs0 hG2 (kill_at d _) hd (kill_ref d _) (cs := cs ++ news) (olds := cur.toList.take cs.length ++ us) (hcc.append hrcs) hcn hge hcm (fz := fz) hfzc (ob := mk (cs ++ news)) (hmk _)
              obtain ⟨E', h1, h2, h3, h4⟩ := hup
              exact ⟨_, _, _, hkq, E', h1, h2, h3, fun y v hy hkk => h4 y v (rv_kill d (rv_kill s' hy)) fun s hs => by simp at hs; subst hs; exact hkk s (by simp)⟩
        split at hk
        · rename_i t' fz cs hl
          exact hmain t' fz cs (fun q => .ob e fz q) (by rw [hl]; rfl) (fun _ => .inl rfl) (fun _ _ _ h => by rw [hl] at h; cases h) hk
        · rename_i t' fz cs hl
          exact hmain t' fz cs (fun q => .sb e fz q) (by rw [hl]; rfl) (fun _ => .inr rfl) (fun h0 _ _ _ _ => by rw [h0]) hk
        · cases hk

theorem run_append_make {t t' ty e : TypeId} {kd kd' : IntKind} {i : TypeInfo} {z : Value} (ht : P.underlying t = some (.slice e)) (ht' : P.underlying t' = some (.int kd)) (hi : P.info? e = some i) (hz : i.zero = some z) {w : World} {n : Int} (hn : 0 < n) (hn2 : n ≤ 140737488355328)
    (hs0 : i.size ≠ 0) (hby : (i.bytes : Int) * n ≤ 140737488355328) :
    (Builtin.append_ #[t, t'] ty #[.slice none 0 0, .int kd' n]).run P w = .ok (.slice (some ⟨w.heap.size, 0, none⟩) n.toNat (grownCap w n.toNat 0 e))
      (w.drew.alloc (.cells ((Builtin.zeroCells z.cells n.toNat).toList ++ (Builtin.zeroCells z.cells (grownCap w n.toNat 0 e - n.toNat)).toList).toArray e)) := by
  obtain ⟨m, rfl⟩ : ∃ m : Nat, n = m := ⟨n.toNat, by omega⟩
  have w1 : IntKind.i64.wrap (m : Int) = m := wrap_small (by omega) hn2
  have hm : ¬ m ≤ 0 := by omega
  have h48 : ¬ ((2 : Int) ^ 48 < (m : Int) * (i.bytes : Int)) := by
    have : (2 : Int) ^ 48 = 281474976710656 := by decide
    rw [this, Int.mul_comm]; omega
  have h0 : ¬ ((m : Int) < 0) := by omega
  have hmz : ¬ (m * i.size = 0) := by
    intro h
    rcases Nat.mul_eq_zero.1 h with h | h <;> omega
  have h63 : ¬ ((9223372036854775807 : Int) < (m : Int)) := by omega
  have e1 : ((m * i.bytes : Nat) : Int) = (i.bytes : Int) * m := by rw [Int.natCast_mul, Int.mul_comm]
  have hfit : ¬ (281474976710656 < Builtin.nextslicecap m 0 * i.bytes) := by
    have := growslice_fits (bytes := i.bytes) (need := m) (old := 0) (by omega) (by omega)
    omega
  simp [Builtin.append_, run_underlying ht, run_underlying ht', sizeOf, typeInfo, zeroValue, hi, hz, asInt, asIntOf, w1, h0, h48, hm, hmz, h63, hfit, Question.forced, newRow, grownCap, Builtin.firstCells]
  have h48' : ¬ (281474976710656 < (m : Int) * (i.bytes : Int)) := by rw [Int.mul_comm]; omega
  have hm0 : ¬ m = 0 := by omega
  rw [if_neg h48', if_neg hm0]
  congr 2
  congr 1; apply Array.ext'
  simp

theorem op_appMake (hG : Good P A E l pend) {c : Call} {T T' : TypeId} {d : Nat} {a b : Operand} (ho : o.op = .call c) (hc1 : c.callee = .builtin .append) (hc2 : c.args = #[a, b]) (hc3 : c.argTypes = #[T, T']) (hd : ¬ pend d)
    {x y : V} {u v : Value} (hx : RV P E l x u) (hy : RV P E l y v) (hu : ρ a = u) (hv : ρ b = v) (h0 : appMakeK P l k T T' x y d = some r) : Sound P A E l pend ((execOp ρ o).run P E.w) k r := by
  unfold appMakeK at h0
  split at h0
  case h_2 => cases h0
  case h_1 e kd n hT hT' hn =>
    obtain ⟨kd', rfl⟩ := idxI_eq hn hy
    cases hx with | c hc => cases hc with | nl =>
    split at h0
    case h_2 => cases h0
    case h_1 i zs hi hz =>
      obtain ⟨hb, hk⟩ := need_some h0
      simp only [Bool.and_eq_true, decide_eq_true_iff] at hb
      obtain ⟨⟨⟨hb1, hb2⟩, hb3⟩, hb5⟩ := hb
      have hs0 : i.size ≠ 0 := by intro e; rw [e] at hb5; cases hb5
      obtain ⟨i', z, hi', hiz, hrun, hlen, hrc⟩ := zeroCs_run hz E.w
      rw [hi] at hi'; injection hi' with hi'; subst hi'
      have hzs : z.cells.size = i.size := by have := (hrc E.w E.Pr).len; simp at this; omega
      have hr := run_append_make (ty := o.type) (kd' := kd') hT hT' hi hiz (w := E.w) hb1 hb3 hs0 hb2
      have hrun2 : (execOp ρ o).run P E.w = .ok (.value (.slice (some ⟨E.w.heap.size, 0, none⟩) n.toNat (grownCap E.w n.toNat 0 e)))
          (E.w.drew.alloc (.cells ((Builtin.zeroCells z.cells n.toNat).toList ++ (Builtin.zeroCells z.cells (grownCap E.w n.toNat 0 e - n.toNat)).toList).toArray e)) := by
        simp [execOp, ho, resolve, hc1, hc2, hc3, invoke, builtin, hu, hv, hr]
      rw [hrun2]
      have hcm := grownCap_le_maxLen E.w n.toNat 0 e (by unfold maxLen; omega)
      have hge := grownCap_ge E.w n.toNat 0 e
      have hz1 : (Builtin.zeroCells z.cells n.toNat).toList = ((Array.range (n.toNat * i.size)).map (z.cells[· % z.cells.size]!)).toList := by simp [Builtin.zeroCells, hzs]
      have hrcs : RCs E.w E.Pr (reps n.toNat zs) (Builtin.zeroCells z.cells n.toNat).toList := by
        rw [hz1, ← hlen]
        exact reps_rcs (hrc E.w E.Pr) n.toNat (.inr trivial)
      have hup := up_grown (P := P) (A := A) (pend := pend) (E := E.kill l d) (l := l.kill d) (d := d) hi hzs hs0 (hG.kill hd) (kill_at d l) hd (kill_ref d l) (cs := reps n.toNat zs) (olds := (Builtin.zeroCells z.cells n.toNat).toList) hrcs (by rw [reps_length, hlen]) hge hcm (fz := 0) (Nat.zero_le _) (ob := .sb e 0 (reps n.toNat zs)) (.inr rfl)
      obtain ⟨E', h1, h2, h3, h4⟩ := hup
      exact ⟨_, _, _, hk, E', h1, ⟨h2.1, h2.2⟩, h3, fun y v hy hkk => h4 y v (rv_kill d hy) fun s hs => by simp at hs; subst hs; exact hkk s (by simp)⟩

end
end Go.PM
/- The pure machine: results, and that what is handed on does not depend on what is done with it. -/
namespace Go.PM
open Go

variable {P : Program} {R : Type} {r : R}

theorem asI_nat {kd : IntKind} {c : C} {k : Int → Option R} (h : asI kd c k = some r) : ∃ n, (∀ {S : Type} (k' : Int → Option S), asI kd c k' = k' n) ∧ k n = some r := by
  unfold asI at h
  split at h
  · rename_i kd' n
    split at h
    · rename_i hk; exact ⟨n, fun k' => by simp [asI, hk], h⟩
    · cases h
  · cases h
theorem asB_nat {c : C} {k : Bool → Option R} (h : asB c k = some r) : ∃ n, (∀ {S : Type} (k' : Bool → Option S), asB c k' = k' n) ∧ k n = some r := by
  unfold asB at h
  split at h
  · exact ⟨_, fun k' => rfl, h⟩
  · cases h
theorem asS_nat {c : C} {k : ByteArray → Option R} (h : asS c k = some r) : ∃ n, (∀ {S : Type} (k' : ByteArray → Option S), asS c k' = k' n) ∧ k n = some r := by
  unfold asS at h
  split at h
  · exact ⟨_, fun k' => rfl, h⟩
  · cases h
theorem asSl_nat {c : C} {k : Nat → List C → Option R} (h : asSl c k = some r) : ∃ n cs, (∀ {S : Type} (k' : Nat → List C → Option S), asSl c k' = k' n cs) ∧ k n cs = some r := by
  unfold asSl at h
  split at h
  · exact ⟨_, _, fun k' => rfl, h⟩
  · exact ⟨_, _, fun k' => rfl, h⟩
  · cases h
theorem asP_nat {c : C} {k : List C → Option R} (h : asP c k = some r) : ∃ cs, (∀ {S : Type} (k' : List C → Option S), asP c k' = k' cs) ∧ k cs = some r := by
  unfold asP at h
  split at h
  · exact ⟨_, fun k' => rfl, h⟩
  · cases h
theorem asFn_nat {c : C} {k : FuncId → List C → Option R} (h : asFn c k = some r) : ∃ n cs, (∀ {S : Type} (k' : FuncId → List C → Option S), asFn c k' = k' n cs) ∧ k n cs = some r := by
  unfold asFn at h
  split at h
  · exact ⟨_, _, fun k' => rfl, h⟩
  · cases h
theorem need_nat {b : Bool} {x : Option R} (h : need b x = some r) : (∀ {S : Type} (y : Option S), need b y = y) ∧ x = some r := by
  obtain ⟨h1, h2⟩ := need_some h
  exact ⟨fun y => by rw [h1]; rfl, h2⟩

theorem getLf_nat {l : Lf} {c : C} {k : C → Option R} (h : getLf l c k = some r) : ∃ c', (∀ {S : Type} (k' : C → Option S), getLf l c k' = k' c') ∧ k c' = some r := by
  cases l with
  | i kd => obtain ⟨n, h1, h2⟩ := asI_nat h; exact ⟨_, fun k' => h1 _, h2⟩
  | b => obtain ⟨n, h1, h2⟩ := asB_nat h; exact ⟨_, fun k' => h1 _, h2⟩
  | s => obtain ⟨n, h1, h2⟩ := asS_nat h; exact ⟨_, fun k' => h1 _, h2⟩
  | o => exact ⟨c, fun k' => rfl, h⟩

theorem getLfs_nat : ∀ {ls : List Lf} {cs : List C} {k : List C → Option R} (_ : getLfs ls cs k = some r), ∃ cs', (∀ {S : Type} (k' : List C → Option S), getLfs ls cs k' = k' cs') ∧ k cs' = some r
  | [], cs, k, h => ⟨[], fun k' => rfl, h⟩
  | l :: ls, [], k, h => by cases h
  | l :: ls, c :: cs, k, h => by
    obtain ⟨c', h1, h2⟩ := getLf_nat (show getLf l c (fun c' => getLfs ls cs fun cs' => k (c' :: cs')) = some r from h)
    obtain ⟨cs', h3, h4⟩ := getLfs_nat h2
    exact ⟨c' :: cs', fun k' => by simp only [getLfs, unc, h1, h3], h4⟩

theorem retV_nat {t : TypeId} {x : V} {k : V → Option R} (h : retV P t x k = some r) : ∃ v, (∀ {S : Type} (k' : V → Option S), retV P t x k' = k' v) ∧ k v = some r := by
  unfold retV at h
  split at h
  · rename_i ha
    unfold rA at h
    split at h
    · rename_i cs
      split at h
      · rename_i ls hl
        obtain ⟨h1, h2⟩ := need_nat h
        obtain ⟨cs', h3, h4⟩ := getLfs_nat h2
        exact ⟨_, fun k' => by simp only [retV, ha, rA, hl, h1, h3], h4⟩
      · rename_i hl
        exact ⟨_, fun k' => by simp only [retV, ha, rA, hl], h⟩
    · cases h
  · rename_i ha
    split at h
    · rename_i lf hl
      unfold rC at h
      split at h
      · rename_i c
        obtain ⟨c', h1, h2⟩ := getLf_nat (k := fun c' => k (.c c')) h
        exact ⟨_, fun k' => by simp only [retV, ha, hl, rC, h1], h2⟩
      · cases h
    · cases h

theorem retL_nat : ∀ {ts : List TypeId} {xs : List V} {k : List V → Option R} (_ : retL P ts xs k = some r), ∃ vs, (∀ {S : Type} (k' : List V → Option S), retL P ts xs k' = k' vs) ∧ k vs = some r
  | [], xs, k, h => by
    unfold retL at h
    split at h
    · exact ⟨[], fun k' => by simp [retL], h⟩
    · cases h
  | t :: ts, [], k, h => by cases h
  | t :: ts, x :: xs, k, h => by
    obtain ⟨v, h1, h2⟩ := retV_nat (show retV P t x (fun v => retL P ts xs fun vs => k (v :: vs)) = some r from h)
    obtain ⟨vs, h3, h4⟩ := retL_nat h2
    exact ⟨v :: vs, fun k' => by simp only [retL, uncV, h1, h3], h4⟩

theorem retK_nat {t : TypeId} {x : V} {k : V → Option R} (h : retK P t x k = some r) : ∃ v, (∀ {S : Type} (k' : V → Option S), retK P t x k' = k' v) ∧ k v = some r := by
  unfold retK at h
  split at h
  · rename_i ts hT
    split at h
    · rename_i hts
      exact ⟨_, fun k' => by simp only [retK, hT, hts], h⟩
    · rename_i hts
      unfold rT at h
      split at h
      · rename_i vs
        obtain ⟨vs', h1, h2⟩ := retL_nat h
        exact ⟨.tup vs', fun k' => by
          simp only [retK, hT, rT, h1], h2⟩
      · cases h
  · rename_i hT
    obtain ⟨v, h1, h2⟩ := retV_nat h
    exact ⟨v, fun k' => by
      unfold retK
      split
      · rename_i ts hts; exact absurd hts (hT ts)
      · exact h1 k', h2⟩

theorem uncO_eq {xs : List Obj} {k : Obj → List Obj → Option R} (h : uncO xs k = some r) : ∃ o os, xs = o :: os ∧ k o os = some r := by
  cases xs with
  | nil => cases h
  | cons o os => exact ⟨o, os, rfl, h⟩
theorem rO_eq {o : Obj} {t fz : Nat} {k : List C → Option R} (h : rO o t fz k = some r) : ∃ cs, o = .ob t fz cs ∧ k cs = some r := by
  unfold rO at h
  split at h
  · obtain ⟨hb, hq⟩ := need_some h
    rw [Bool.and_eq_true] at hb
    have e1 := Nat.eq_of_beq_eq_true hb.1
    have e2 := Nat.eq_of_beq_eq_true hb.2
    subst e1 e2
    exact ⟨_, rfl, hq⟩
  · cases h

theorem rS_eq {o : Obj} {t fz : Nat} {k : List C → Option R} (h : rS o t fz k = some r) : ∃ cs, o = .sb t fz cs ∧ k cs = some r := by
  unfold rS at h
  split at h
  · obtain ⟨hb, hq⟩ := need_some h
    rw [Bool.and_eq_true] at hb
    have e1 := Nat.eq_of_beq_eq_true hb.1
    have e2 := Nat.eq_of_beq_eq_true hb.2
    subst e1 e2
    exact ⟨_, rfl, hq⟩
  · cases h
theorem rF_eq {o : Obj} {t : Nat} {k : Nat → List C → Option R} (h : rF o t k = some r) : ∃ fz cs, o = .sb t fz cs ∧ fz ≤ cs.length ∧ k fz cs = some r := by
  unfold rF at h
  split at h
  · obtain ⟨hb, hq⟩ := need_some h
    rw [Bool.and_eq_true] at hb
    have e1 := Nat.eq_of_beq_eq_true hb.1
    subst e1
    exact ⟨_, _, rfl, Nat.le_of_ble_eq_true hb.2, hq⟩
  · cases h
theorem rW_eq {x : V} {m : Nat} {k : Nat → Option R} (h : rW x m k = some r) : ∃ n, x = .own (OUT + m) 0 n ∧ k n = some r := by
  unfold rW at h
  split at h
  · obtain ⟨hb, hq⟩ := need_some h
    rw [Bool.and_eq_true] at hb
    have e1 := Nat.eq_of_beq_eq_true hb.1
    have e2 := Nat.eq_of_beq_eq_true hb.2
    subst e1 e2
    exact ⟨_, rfl, hq⟩
  · cases h
theorem rP_eq {x : V} {m : Nat} {k : Option R} (h : rP x m k = some r) : x = .ptr (OUT + m) 0 ∧ k = some r := by
  unfold rP at h
  split at h
  · obtain ⟨hb, hq⟩ := need_some h
    rw [Bool.and_eq_true] at hb
    have e1 := Nat.eq_of_beq_eq_true hb.1
    have e2 := Nat.eq_of_beq_eq_true hb.2
    subst e1 e2
    exact ⟨rfl, hq⟩
  · cases h
theorem rS_self {t fz : Nat} {cs : List C} {k : List C → Option R} : rS (.sb t fz cs) t fz k = k cs := by simp [rS, need]
theorem rF_self {t fz : Nat} {cs : List C} {k : Nat → List C → Option R} (h : fz ≤ cs.length) : rF (.sb t fz cs) t k = k fz cs := by simp [rF, need, Nat.ble_eq_true_of_le h]
theorem rW_self {m n : Nat} {k : Nat → Option R} : rW (.own (OUT + m) 0 n) m k = k n := by simp [rW, need]
theorem rP_self {m : Nat} {k : Option R} : rP (.ptr (OUT + m) 0) m k = k := by simp [rP, need]

theorem rO_self {t fz : Nat} {cs : List C} {k : List C → Option R} : rO (.ob t fz cs) t fz k = k cs := by simp [rO, need]

theorem thaw_eq {ss : List Nat} {b : Bool} {l l2 : Loc} (h : ¬ (ss = [] ∧ b = true)) : thaw ss b l l2 = l2 := by
  unfold thaw
  split
  · exact absurd ⟨rfl, rfl⟩ h
  · rfl
theorem thaw_same (ss : List Nat) (b : Bool) (l : Loc) : thaw ss b l l = l := by unfold thaw; split <;> rfl

theorem take1_nat {m site i : Nat} {x : Option TypeId} {ty : TypeId} {v : V} {os : List Obj} {l : Loc} {k : V → Nat → List Obj → Loc → List Nat → Option R} (h : take1 P m site i x ty v os l k = some r) :
    ∃ y i2 os2 l2 ks, (∀ {S : Type} (k' : V → Nat → List Obj → Loc → List Nat → Option S), take1 P m site i x ty v os l k' = k' y i2 os2 l2 ks) ∧ k y i2 os2 l2 ks = some r := by
  unfold take1 at h
  split at h
  · obtain ⟨y, h1, h2⟩ := retV_nat h
    exact ⟨y, i, os, l, [], fun k' => by simp only [take1, h1], h2⟩
  · rename_i te
    obtain ⟨h0, h⟩ := need_nat h
    split at h
    · rename_i q hty
      obtain ⟨rfl, h1⟩ := rP_eq h
      obtain ⟨o, os', rfl, h2⟩ := uncO_eq h1
      obtain ⟨cs, rfl, h3⟩ := rO_eq h2
      split at h3
      · rename_i ls hls
        obtain ⟨h4, h5⟩ := need_nat h3
        obtain ⟨cs2, h6, h7⟩ := getLfs_nat h5
        exact ⟨_, _, _, _, _, fun k' => by simp only [take1, h0, hty, rP_self, uncO, rO_self, hls, h4, h6], h7⟩
      · rename_i hls
        exact ⟨_, _, _, _, _, fun k' => by simp only [take1, h0, hty, rP_self, uncO, rO_self, hls], h3⟩
    · rename_i q hty
      obtain ⟨n, rfl, h1⟩ := rW_eq h
      obtain ⟨o, os', rfl, h2⟩ := uncO_eq h1
      obtain ⟨cs, rfl, h3⟩ := rS_eq h2
      obtain ⟨h4, h5⟩ := need_nat h3
      exact ⟨_, _, _, _, _, fun k' => by simp only [take1, h0, hty, rW_self, uncO, rS_self, h4], h5⟩
    · cases h

theorem takeL_nat {m d : Nat} : ∀ {ts : List TypeId} {j i : Nat} {xo : List (Option TypeId)} {xs : List V} {os : List Obj} {l : Loc} {k : List V → Loc → List Nat → Option R} (_ : takeL P m d j i xo ts xs os l k = some r),
    ∃ ys l2 ks, (∀ {S : Type} (k' : List V → Loc → List Nat → Option S), takeL P m d j i xo ts xs os l k' = k' ys l2 ks) ∧ k ys l2 ks = some r
  | [], j, i, xo, xs, os, l, k, h => by
    unfold takeL at h
    split at h
    · exact ⟨[], l, [], fun k' => by simp [takeL], h⟩
    · cases h
  | t :: ts, j, i, xo, [], os, l, k, h => by cases h
  | t :: ts, j, i, xo, x :: xs, os, l, k, h => by
    obtain ⟨h0, h⟩ := need_nat (show need (!live (l (nsite d j))) (take1 P m (nsite d j) i (xo.headD none) t x os l (fun y i' os' l' ks => takeL P m d (j + 1) i' xo.tail ts xs os' l' fun ys' l2 ks2 => k (y :: ys') l2 (ks ++ ks2))) = some r from h)
    obtain ⟨y, i2, os2, l2, ks, h1, h2⟩ := take1_nat h
    obtain ⟨ys, l3, ks3, h3, h4⟩ := takeL_nat h2
    exact ⟨y :: ys, l3, ks ++ ks3, fun k' => by simp only [takeL, uncV, h0, h1, h3], h4⟩

end Go.PM
/- The pure machine: calls. -/
namespace Go.PM
open Go

variable {P : Program}

/-- What is others' stays as it is. -/
def frJ (w0 : World) (Y0 : Nat → Prop) : JT where
  J Y _ lg w := lg = none ∧ ∀ b, Y0 b → Y b ∧ w.heap[b]? = w0.heap[b]?
  stab := fun h hb _ _ _ _ _ _ => ⟨h.1, fun b h0 => ⟨(h.2 b h0).1, (hb b (h.2 b h0).1).trans (h.2 b h0).2⟩⟩
  weak := fun h => ⟨rfl, h.2⟩

theorem frJ_yok (w0 : World) (Y0 : Nat → Prop) : YOk P (frJ w0 Y0) := fun _ _ _ _ _ _ _ h => by cases h.1

/-- Where a callee begins: its objects are those that were handed over, each at its number. -/
def startFr (pt : Nat → TypeId) (E : Env) (j : JT) : Fr := { pt := pt, w0 := E.w, Pr0 := E.Pr, tm := fun _ => none, n := 0, outs := fun _ => none, M := fun b => ∃ s, E.rho s = some b, jt := j, dfix := false }

/-- What the package-level variables hold, those that nobody writes. -/
def GlobOk (G : Nat → Option (List C)) (w : World) (Pr : Nat → Nat → Prop) : Prop := ∀ g cs, G g = some cs → RC w Pr (.cp cs) (.pointer (some ⟨g, 0, none⟩))
theorem GlobOk.held {G : Nat → Option (List C)} {w w' : World} {Pr Pr' : Nat → Nat → Prop} (h : GlobOk G w Pr) (hx : Held w Pr w' Pr') : GlobOk G w' Pr' := fun g cs e => (h g cs e).held hx

/-- What a call does, said of pure values. -/
def ConAt (P : Program) (G : Nat → Option (List C)) (f : FuncId) (args : List V) (objs : List Obj) (out : Out) : Prop :=
  ∀ (pt : Nat → TypeId) (E : Env) (us : List Value) (j : JT), us.length = args.length → E.D = [] → GlobOk G E.w E.Pr → Good P (startFr pt E j) E (locOf objs (log0 args)) (fun _ => False) →
    (∀ (i : Nat) (x : V) (u : Value), args[i]? = some x → us[i]? = some u → RV P E (locOf objs (log0 args)) x u) →
    Calls P f us.toArray E.w fun e w' => ∃ u E', e = .returned u ∧ E'.w = w' ∧ Good P (startFr pt E j) E' (locOf out.objs out.log) (fun _ => False) ∧ RV P E' (locOf out.objs out.log) out.r u ∧
      ∀ k, k < objs.length → ∀ g, E.rho (OUT + k) = some g → E'.rho (OUT + k) = some g ∧ E'.bs (OUT + k) = E.bs (OUT + k)

section
variable {A : Fr} {E : Env} {l : Loc} {pend : Nat → Prop} {R : Type} {r : R}

theorem siteIdx_some : ∀ {ss : List Nat} {s i n : Nat} (_ : siteIdx ss s i = some n), ∃ j, n = i + j ∧ ss[j]? = some s
  | [], _, _, _, h => by cases h
  | s' :: ss, s, i, n, h => by
    unfold siteIdx at h
    cases hb : Nat.beq s' s with
    | true =>
      rw [hb] at h; injection h with h
      exact ⟨0, by omega, by simp [Nat.eq_of_beq_eq_true hb]⟩
    | false =>
      rw [hb] at h
      obtain ⟨j, h1, h2⟩ := siteIdx_some (ss := ss) h
      exact ⟨j + 1, by omega, by simpa using h2⟩

theorem siteIdx_none : ∀ {ss : List Nat} {s i : Nat} (_ : siteIdx ss s i = none), s ∉ ss
  | [], _, _, _ => by simp
  | s' :: ss, s, i, h => by
    unfold siteIdx at h
    cases hb : Nat.beq s' s with
    | true => rw [hb] at h; cases h
    | false =>
      rw [hb] at h
      have h1 := siteIdx_none (ss := ss) h
      intro hm
      rcases List.mem_cons.1 hm with e | e
      · subst e; rw [Nat.beq_refl] at hb; cases hb
      · exact h1 e

/-- A handed argument. -/
def RY (P : Program) (E : Env) (l : Loc) (ss : List Nat) (y : V) (u : Value) : Prop :=
  (∃ c, y = .c c ∧ RC E.w E.Pr c u) ∨ (∃ cs vs, y = .agg cs ∧ u = .agg vs.toArray ∧ RCs E.w E.Pr cs vs) ∨ (∃ i off s, y = .ptr (OUT + i) off ∧ ss[i]? = some s ∧ RV P E l (.ptr s off) u) ∨ (∃ i off n s, y = .own (OUT + i) off n ∧ ss[i]? = some s ∧ RV P E l (.own s off n) u)

/-- Something leads to a site. -/
def Led (P : Program) (E : Env) (l : Loc) (s : Nat) : Prop := (∃ off u, RV P E l (.ptr s off) u) ∨ ∃ off n u, RV P E l (.own s off n) u
theorem Led.mild {E E' : Env} {l l' : Loc} (h : Mild E E' l l') {s : Nat} (hs : Led P E l s) : Led P E' l' s := by
  rcases hs with ⟨off, u, h1⟩ | ⟨off, n, u, h1⟩
  · exact .inl ⟨off, u, h.rv h1⟩
  · exact .inr ⟨off, n, u, h.rv h1⟩
theorem Led.npend (hG : Good P A E l pend) {s : Nat} (h : Led P E l s) : ¬ pend s := by
  intro hp
  obtain ⟨hr, cs, _, hl⟩ := hG.pnd s hp
  rcases h with ⟨off, u, h⟩ | ⟨off, n, u, h⟩
  · cases h with
    | ptrDead hd => rw [hl] at hd; cases hd
    | ptr h => rw [hr] at h; cases h
  · cases h with
    | ownDead hd => rw [hl] at hd; cases hd
    | ownNil _ hd => rw [hl] at hd; cases hd
    | own h _ _ _ _ => rw [hr] at h; cases h
    | own0 h _ _ => rw [hr] at h; cases h
    | ownRf hd => rw [hl] at hd; cases hd

theorem nrm1_rc {w : World} {Pr : Nat → Nat → Prop} {hd : List Nat} {c : C} {u : Value} (h : RC w Pr c u) : RC w Pr (nrm1 hd c) u := by
  unfold nrm1
  split
  · rename_i n _
    cases Nat.beq n 2
    · exact h
    · show RC w Pr (nrm c) u
      unfold nrm
      split
      · cases h; exact .sl0 (by unfold maxLen; omega)
      · exact h
  · exact h

theorem marsh_sound {strict : Bool} : ∀ {hd : List Nat} {xs : List V} {us : List Value} {E : Env} {l : Loc} {ss : List Nat} (_ : Good P A E l pend) (_ : us.length = xs.length)
    (_ : ∀ (j : Nat) (x : V) (u : Value), xs[j]? = some x → us[j]? = some u → RV P E l x u) (_ : ss.Nodup) {k : List V → Loc → List Nat → Option R} (_ : marsh P strict hd xs l ss k = some r),
    ∃ ys l1 ss1 E1, k ys l1 ss1 = some r ∧ Good P A E1 l1 pend ∧ Mild E E1 l l1 ∧ ys.length = us.length ∧ (∃ rest, ss1 = ss ++ rest) ∧ ss1.Nodup ∧
      (∀ (j : Nat) (y : V) (u : Value), ys[j]? = some y → us[j]? = some u → RY P E1 l1 ss1 y u) ∧ (strict = true → l1 = l ∧ ss1 = ss) ∧ ∀ s ∈ ss1, s ∈ ss ∨ Led P E1 l1 s
  | _, [], us, E, l, ss, hG, hl, _, hn, k, h => ⟨[], l, ss, E, h, hG, .refl E l, by simpa using hl.symm, ⟨[], by simp⟩, hn, by simp, fun _ => ⟨rfl, rfl⟩, fun _ h => .inl h⟩
  | hd, x :: xs, [], E, l, ss, hG, hl, _, _, k, h => by simp at hl
  | hd, x :: xs, u :: us, E, l, ss, hG, hl, hx, hn, k, h => by
    have hu := hx 0 x u rfl rfl
    have cons : ∀ {E1 : Env} {l1 : Loc} {ss1 : List Nat} (y : V), Good P A E1 l1 pend → Mild E E1 l l1 → (∃ rest, ss1 = ss ++ rest) → ss1.Nodup → (strict = true → l1 = l ∧ ss1 = ss) → (∀ (E2 : Env) (l2 : Loc) (rest : List Nat), Mild E1 E2 l1 l2 → RY P E2 l2 (ss1 ++ rest) y u) → (∀ s ∈ ss1, s ∈ ss ∨ Led P E1 l1 s) →
        marsh P strict hd.tail xs l1 ss1 (fun ys l' ss' => k (y :: ys) l' ss') = some r →
        ∃ ys l1 ss1 E1, k ys l1 ss1 = some r ∧ Good P A E1 l1 pend ∧ Mild E E1 l l1 ∧ ys.length = (u :: us).length ∧ (∃ rest, ss1 = ss ++ rest) ∧ ss1.Nodup ∧
          (∀ (j : Nat) (y : V) (u' : Value), ys[j]? = some y → (u :: us)[j]? = some u' → RY P E1 l1 ss1 y u') ∧ (strict = true → l1 = l ∧ ss1 = ss) ∧ ∀ s ∈ ss1, s ∈ ss ∨ Led P E1 l1 s := by
      intro E1 l1 ss1 y hG1 hM1 hr1 hn1 hst1 hy hpt h
      obtain ⟨ys, l2, ss2, E2, h1, h2, h3, h4, ⟨rest, h5⟩, h6, h7, h8, h9⟩ := marsh_sound (xs := xs) (us := us) hG1 (by simpa using hl) (fun j z v hz hv => hM1.rv (hx (j + 1) z v (by simpa using hz) (by simpa using hv))) hn1 h
      obtain ⟨rest1, hr1⟩ := hr1
      refine ⟨y :: ys, l2, ss2, E2, h1, h2, hM1.trans h3, by simp [h4], ⟨rest1 ++ rest, by rw [h5, hr1, List.append_assoc]⟩, h6, fun j y' u' hy' hu' => ?_, fun hs => ⟨(h8 hs).1.trans (hst1 hs).1, (h8 hs).2.trans (hst1 hs).2⟩, fun s hs => by
          rcases h9 s hs with h | h
          · rcases hpt s h with h | h
            · exact .inl h
            · exact .inr (h.mild h3)
          · exact .inr h⟩
      cases j with
      | zero => simp at hy' hu'; subst hy' hu'; rw [h5]; exact hy E2 l2 rest h3
      | succ j => exact h7 j y' u' (by simpa using hy') (by simpa using hu')
    unfold marsh at h
    cases x with
    | c c =>
      cases hu with | c hc =>
      exact cons (.c (nrm1 hd c)) hG (.refl E l) ⟨[], by simp⟩ hn (fun _ => ⟨rfl, rfl⟩) (fun E2 l2 rest hM => .inl ⟨_, rfl, nrm1_rc (hc.held hM.held)⟩) (fun _ h => .inl h) h
    | agg cs =>
      cases hu with | agg hc =>
      exact cons (.agg cs) hG (.refl E l) ⟨[], by simp⟩ hn (fun _ => ⟨rfl, rfl⟩) (fun E2 l2 rest hM => .inr (.inl ⟨cs, _, rfl, rfl, hc.held hM.held⟩)) (fun _ h => .inl h) h
    | own s off n =>
      simp only at h
      split at h
      · rename_i hh
        have hst : strict = false := by
          cases strict with
          | false => rfl
          | true => cases hh
        split at h
        · rename_i i hi
          obtain ⟨j, e, hj⟩ := siteIdx_some hi
          obtain rfl : i = j := by omega
          exact cons (.own (OUT + i) off n) hG (.refl E l) ⟨[], by simp⟩ hn (fun hs => by rw [hst] at hs; cases hs) (fun E2 l2 rest hM => .inr (.inr (.inr ⟨i, off, n, s, rfl, by
            rw [List.getElem?_append_left (List.getElem?_eq_some_iff.1 hj).1]; exact hj, hM.rv hu⟩))) (fun _ h => .inl h) h
        · rename_i hi
          have hns := siteIdx_none hi
          exact cons (ss1 := ss ++ [s]) (.own (OUT + ss.length) off n) hG (.refl E l) ⟨[s], rfl⟩ (by
            rw [List.nodup_append]; exact ⟨hn, by simp, by intro a ha b hb; simp at hb; subst hb; exact fun e => hns (e ▸ ha)⟩) (fun hs => by rw [hst] at hs; cases hs) (fun E2 l2 rest hM => .inr (.inr (.inr ⟨ss.length, off, n, s, rfl, by simp, hM.rv hu⟩))) (fun a ha => by
            rcases List.mem_append.1 ha with ha | ha
            · exact .inl ha
            · simp at ha; subst ha; exact .inr (.inr ⟨off, n, u, hu⟩)) h
      have hone := pur_one hu h rfl
      obtain ⟨cs, l1, E1, hk, hG1, hM, hc, hst⟩ := pur_sound hG hu h
      split at hk
      · rename_i c
        rw [cells_one hone] at hc
        obtain ⟨v, vs, e, hc1, _⟩ := hc.uncons
        simp at e
        obtain ⟨e1, e2⟩ := e
        subst e1
        exact cons (.c c) hG1 hM ⟨[], by simp⟩ hn (fun hs => ⟨hst hs, rfl⟩) (fun E2 l2 rest hM2 => .inl ⟨c, rfl, hc1.held hM2.held⟩) (fun _ h => .inl h) hk
      · cases hk
    | ptr s off =>
      simp only at h
      cases strict with
      | true => cases h
      | false =>
        simp only at h
        split at h
        · rename_i i hi
          obtain ⟨j, e, hj⟩ := siteIdx_some hi
          obtain rfl : i = j := by omega
          exact cons (.ptr (OUT + i) off) hG (.refl E l) ⟨[], by simp⟩ hn (fun hs => by cases hs) (fun E2 l2 rest hM => .inr (.inr (.inl ⟨i, off, s, rfl, by
            rw [List.getElem?_append_left (List.getElem?_eq_some_iff.1 hj).1]; exact hj, hM.rv hu⟩))) (fun _ h => .inl h) h
        · rename_i hi
          have hns := siteIdx_none hi
          exact cons (ss1 := ss ++ [s]) (.ptr (OUT + ss.length) off) hG (.refl E l) ⟨[s], rfl⟩ (by
            rw [List.nodup_append]; exact ⟨hn, by simp, by intro a ha b hb; simp at hb; subst hb; exact fun e => hns (e ▸ ha)⟩) (fun hs => by cases hs) (fun E2 l2 rest hM => .inr (.inr (.inl ⟨ss.length, off, s, rfl, by simp, hM.rv hu⟩))) (fun a ha => by
            rcases List.mem_append.1 ha with ha | ha
            · exact .inl ha
            · simp at ha; subst ha; exact .inr (.inl ⟨off, u, hu⟩)) h
    | _ => cases h

theorem retV_eq {t : TypeId} {x : V} {k : V → Option R} (h : retV P t x k = some r) : ((∃ c, x = .c c) ∨ ∃ cs, x = .agg cs) ∧ k x = some r := by
  unfold retV at h
  split at h
  · unfold rA at h
    split at h
    · rename_i cs
      refine ⟨.inr ⟨cs, rfl⟩, ?_⟩
      split at h
      · obtain ⟨hb, h⟩ := need_some h
        have h1 := getLfs_eq h
        have h2 := Nat.eq_of_beq_eq_true hb
        rw [← h2, List.take_length] at h1
        exact h1.2
      · exact h
    · cases h
  · split at h
    · unfold rC at h
      split at h
      · rename_i c
        exact ⟨.inl ⟨c, rfl⟩, getLf_eq (k := fun c' => k (.c c')) h⟩
      · cases h
    · cases h

theorem retL_eq : ∀ {ts : List TypeId} {xs : List V} {k : List V → Option R} (_ : retL P ts xs k = some r), (∀ x ∈ xs, (∃ c, x = .c c) ∨ ∃ cs, x = .agg cs) ∧ k xs = some r
  | [], xs, k, h => by
    unfold retL at h
    split at h
    · exact ⟨by simp, h⟩
    · cases h
  | t :: ts, xs, k, h => by
    unfold retL uncV at h
    split at h
    · cases h
    · rename_i x ys
      obtain ⟨h1, h2⟩ := retV_eq h
      obtain ⟨h3, h4⟩ := retL_eq h2
      exact ⟨fun z hz => by rcases List.mem_cons.1 hz with rfl | hz; exact h1; exact h3 z hz, h4⟩

/-- A result without references. -/
inductive PureV : V → Prop
  | c (c : C) : PureV (.c c)
  | agg (cs : List C) : PureV (.agg cs)
  | tup {vs : List V} (h : ∀ x ∈ vs, (∃ c, x = .c c) ∨ ∃ cs, x = .agg cs) : PureV (.tup vs)
  | und : PureV .und

theorem retK_eq {t : TypeId} {x : V} {k : V → Option R} (h : retK P t x k = some r) : ∃ y, PureV y ∧ k y = some r ∧ (y = x ∨ y = .und) := by
  unfold retK at h
  split at h
  · split at h
    · exact ⟨.und, .und, h, .inr rfl⟩
    · unfold rT at h
      split at h
      · rename_i vs
        obtain ⟨h1, h2⟩ := retL_eq h
        exact ⟨_, .tup h1, h2, .inl rfl⟩
      · cases h
  · obtain ⟨h1, h2⟩ := retV_eq h
    rcases h1 with ⟨c, rfl⟩ | ⟨cs, rfl⟩
    · exact ⟨_, .c c, h2, .inl rfl⟩
    · exact ⟨_, .agg cs, h2, .inl rfl⟩

theorem PureV.rv {E E' : Env} {l l' : Loc} (hx : Held E.w E.Pr E'.w E'.Pr) {y : V} (hp : PureV y) {u : Value} (h : RV P E l y u) : RV P E' l' y u := by
  cases hp with
  | c c => cases h with | c h => exact .c (h.held hx)
  | agg cs => cases h with | agg h => exact .agg (h.held hx)
  | tup hv =>
    cases h with
    | tup hs h =>
      refine .tup hs fun j x u hx' hu => ?_
      have h1 := h j x u hx' hu
      rcases hv x (List.mem_of_getElem? hx') with ⟨c, rfl⟩ | ⟨cs, rfl⟩
      · cases h1 with | c h => exact .c (h.held hx)
      · cases h1 with | agg h => exact .agg (h.held hx)
  | und => exact .und

/-- An object of the same kind, with other cells. -/
inductive Same : Obj → Obj → Prop
  | ob {t fz : Nat} {cs cs' : List C} : Same (.ob t fz cs) (.ob t fz cs')
  | sb {t fz fz' : Nat} {cs cs' : List C} (h : cs'.length = cs.length) (hf : fz' = fz ∨ fz' ≤ cs'.length) : Same (.sb t fz cs) (.sb t fz' cs')
theorem Same.tc {o o' : Obj} (h : Same o o') : ∃ t fz fz' cs cs', objTC o = some (t, fz, cs) ∧ objTC o' = some (t, fz', cs') := by
  cases h <;> exact ⟨_, _, _, _, _, rfl, rfl⟩
theorem Same.sh {l l' : Loc} {s : Nat} (h : Same (l s) (l' s)) : Sh l l' s := by
  generalize ho : l s = o at h
  generalize ho' : l' s = o' at h
  cases h with
  | @ob t fz cs cs' =>
    refine ⟨(fun _ _ e => by rw [ho] at e; cases e), fun _ _ _ e => .inl ⟨fz, cs', ?_⟩, (fun _ _ e => by rw [ho] at e; cases e)⟩
    rw [ho] at e; injection e with e; injection e with e1 _; subst e1; rw [ho']; rfl
  | @sb t fz fz' cs cs' hl hf =>
    refine ⟨fun t2 fz2 e => ?_, fun _ _ _ e => .inl ⟨fz', cs', ?_⟩, (fun _ _ e => by rw [ho] at e; cases e)⟩
    · rw [ho] at e; injection e with e1 e2 e3
      subst e1 e3
      have : cs' = [] := List.eq_nil_of_length_eq_zero (by simpa using hl)
      exact ⟨fz', by rw [ho', this]⟩
    · rw [ho] at e; injection e with e; injection e with e1 _; subst e1; rw [ho']; rfl

/-- The objects come back. -/
theorem backK_eq {fb : Bool} : ∀ {ss : List Nat} {os : List Obj} {l : Loc} (_ : ss.Nodup) {k : List Obj → Loc → Option R} (_ : backK P fb ss os l k = some r),
    ∃ l' rest, k rest l' = some r ∧ rest = os.drop ss.length ∧ ss.length ≤ os.length ∧ (∀ s, s ∉ ss → l' s = l s) ∧ l'.log = l.log ∧
      ∀ (i : Nat) (s : Nat), ss[i]? = some s → Same (l s) (l' s) ∧ os[i]? = some (l' s)
  | [], os, l, _, k, h => ⟨l, os, h, by simp, by simp, fun _ _ => rfl, rfl, by simp⟩
  | s :: ss, os, l, hn, k, h => by
    have fin : ∀ (o o' : Obj) (os' : List Obj), l s = o → Same o o' → os = o' :: os' → backK P fb ss os' (l.put s o') k = some r → ∃ l' rest, k rest l' = some r ∧ rest = os.drop (s :: ss).length ∧ (s :: ss).length ≤ os.length ∧ (∀ a, a ∉ s :: ss → l' a = l a) ∧ l'.log = l.log ∧
        ∀ (i : Nat) (a : Nat), (s :: ss)[i]? = some a → Same (l a) (l' a) ∧ os[i]? = some (l' a) := by
      rintro o o' os' ho hsame rfl h'
      have hns : s ∉ ss := (List.nodup_cons.1 hn).1
      obtain ⟨l', rest, q1, q2, q3, q4, q4l, q5⟩ := backK_eq (ss := ss) (List.nodup_cons.1 hn).2 h'
      have hls : l' s = o' := by rw [q4 s hns, put_same]
      refine ⟨l', rest, q1, by simpa using q2, by simpa using q3, fun a ha => ?_, q4l, fun i a hi => ?_⟩
      · have ha' : a ≠ s ∧ a ∉ ss := by simpa using ha
        rw [q4 a ha'.2, put_other l _ ha'.1]
      · cases i with
        | zero =>
          simp at hi; subst hi
          rw [hls, ho]; exact ⟨hsame, rfl⟩
        | succ i =>
          simp at hi
          obtain ⟨h1, h2⟩ := q5 i a hi
          have hne : a ≠ s := fun e => hns (e ▸ List.mem_of_getElem? hi)
          rw [put_other l _ hne] at h1
          exact ⟨h1, by simpa using h2⟩
    unfold backK at h
    split at h
    case h_3 => cases h
    case h_1 t fz cs hl =>
      obtain ⟨o, os', rfl, h1⟩ := uncO_eq h
      obtain ⟨cs', rfl, h2⟩ := rO_eq h1
      refine fin _ _ os' hl .ob rfl ?_
      split at h2
      · obtain ⟨hb2, h3⟩ := need_some h2
        rw [Bool.and_eq_true] at hb2
        have h4 := getLfs_eq h3
        have h5 := Nat.eq_of_beq_eq_true hb2.1
        rw [← h5, List.take_length] at h4
        exact h4.2
      · exact (need_some h2).2
    case h_2 t fz cs hl =>
      obtain ⟨o, os', rfl, h1⟩ := uncO_eq h
      cases fb with
      | false =>
        obtain ⟨cs', rfl, h2⟩ := rS_eq h1
        obtain ⟨hb2, h3⟩ := need_some h2
        exact fin _ _ os' hl (.sb (Nat.eq_of_beq_eq_true hb2) (.inl rfl)) rfl h3
      | true =>
        obtain ⟨fz', cs', rfl, hle, h2⟩ := rF_eq h1
        obtain ⟨hb2, h3⟩ := need_some h2
        exact fin _ _ os' hl (.sb (Nat.eq_of_beq_eq_true hb2) (.inr hle)) rfl h3

theorem allOb_eq : ∀ {ss : List Nat} (_ : allOb l ss = true) (s : Nat), s ∈ ss → ∃ q, objTC (l s) = some q
  | s' :: ss, h, s, hs => by
    unfold allOb at h
    split at h
    · rename_i t fz cs hl
      rcases List.mem_cons.1 hs with rfl | hs
      · exact ⟨(t, fz, cs), by rw [hl]; rfl⟩
      · exact allOb_eq h s hs
    · rename_i t fz cs hl
      rcases List.mem_cons.1 hs with rfl | hs
      · exact ⟨(t, fz, cs), by rw [hl]; rfl⟩
      · exact allOb_eq h s hs
    · cases h

end
end Go.PM
/- The pure machine: a call, the operation. -/
namespace Go.PM
open Go

variable {P : Program}

section
variable {A : Fr} {E : Env} {l : Loc} {pend : Nat → Prop} {R : Type} {r : R}

theorem locOf_out (objs : List Obj) (lg : Option Log) (k : Nat) : locOf objs lg (OUT + k) = (objs[k]?).getD .dead := by
  simp only [locOf]
  have : Nat.ble OUT (OUT + k) = true := Nat.ble_eq_true_of_le (by omega)
  rw [this]; simp

theorem locOf_low (objs : List Obj) (lg : Option Log) {s : Nat} (h : s < OUT) : locOf objs lg s = .dead := by
  simp only [locOf]
  have : Nat.ble OUT s = false := by
    cases hb : Nat.ble OUT s
    · rfl
    · have := Nat.le_of_ble_eq_true hb; omega
  rw [this]; rfl

theorem locOf_ge {objs : List Obj} {lg : Option Log} {s : Nat} (h : locOf objs lg s ≠ .dead) : ∃ k, s = OUT + k ∧ k < objs.length ∧ objs[k]? = some (locOf objs lg s) := by
  by_cases hs : s < OUT
  · exact absurd (locOf_low objs lg hs) h
  · obtain ⟨k, rfl⟩ : ∃ k, s = OUT + k := ⟨s - OUT, by omega⟩
    rw [locOf_out] at h ⊢
    cases hk : objs[k]? with
    | none => rw [hk] at h; simp at h
    | some o => exact ⟨k, rfl, (List.getElem?_eq_some_iff.1 hk).1, by simp [hk]⟩

theorem nodup_inj : ∀ {ss : List Nat} (_ : ss.Nodup) {i j x : Nat} (_ : ss[i]? = some x) (_ : ss[j]? = some x), i = j
  | [], _, i, j, x, h, _ => by simp at h
  | s :: ss, hn, i, j, x, hi, hj => by
    obtain ⟨h1, h2⟩ := List.nodup_cons.1 hn
    cases i <;> cases j
    · rfl
    · simp at hi hj; subst hi; exact absurd (List.mem_of_getElem? hj) h1
    · simp at hi hj; subst hj; exact absurd (List.mem_of_getElem? hi) h1
    · simp at hi hj; rw [nodup_inj h2 hi hj]

/-- What a callee sees of its caller's objects. -/
def Env.callee (E : Env) (ss : List Nat) : Env :=
  { w := E.w, Pr := E.Pr, rho := fun s => if OUT ≤ s then (ss[s - OUT]?).bind E.rho else none, bs := fun s => if OUT ≤ s then ((ss[s - OUT]?).map E.bs).getD 0 else 0, Y := fun b => b < E.w.heap.size ∧ ∀ s ∈ ss, E.rho s ≠ some b, D := [] }

/-- What a callee's surroundings are. -/
abbrev Env.calleeJ (E : Env) (ss : List Nat) : JT := frJ E.w (E.callee ss).Y

theorem callee_rho {E : Env} {ss : List Nat} {i s : Nat} (h : ss[i]? = some s) : (E.callee ss).rho (OUT + i) = E.rho s := by
  simp [Env.callee, h]
theorem callee_bs {E : Env} {ss : List Nat} {i s : Nat} (h : ss[i]? = some s) : (E.callee ss).bs (OUT + i) = E.bs s := by
  simp [Env.callee, h]
theorem callee_some {E : Env} {ss : List Nat} {s g : Nat} (h : (E.callee ss).rho s = some g) : ∃ i a, s = OUT + i ∧ ss[i]? = some a ∧ E.rho a = some g := by
  simp only [Env.callee] at h
  split at h
  · rename_i hs
    cases ha : ss[s - OUT]? with
    | none => rw [ha] at h; cases h
    | some a => rw [ha] at h; exact ⟨s - OUT, a, by omega, ha, h⟩
  · cases h

theorem ObjOk.ren {E E' : Env} {l l' : Loc} {a s' : Nat} {o : Obj} (hw : E'.w = E.w) (hPr : E'.Pr = E.Pr) (hr : E'.rho s' = E.rho a) (hb : E'.bs s' = E.bs a) (hn : ∃ q, objTC o = some q) (h : ObjOk P E l a o) : ObjOk P E' l' s' o := by
  have hblk : ∀ {g : Nat} {t : TypeId} {cs : List C}, Blk E a g t cs → Blk E' s' g t cs := by
    rintro g t cs ⟨cur, c1, c2, c3, c4⟩
    exact ⟨cur, by rw [hw]; exact c1, c2.trans hb.symm, c3, by rw [hw, hPr]; exact c4⟩
  cases h with
  | dead h => obtain ⟨q, e⟩ := hn; cases e
  | ob h1 h2 h3 => exact .ob (hr.trans h1) (hblk h2) h3
  | sbNil h => exact .sbNil (hr.trans h)
  | sb h1 h2 h3 => exact .sb (hr.trans h1) (hblk h2) h3
  | rf _ _ _ _ _ _ => obtain ⟨q, e⟩ := hn; cases e

theorem good_callee (hG : Good P A E l pend) {ss : List Nat} (hn : ss.Nodup) (hob : ∀ s ∈ ss, ∃ q, objTC (l s) = some q) (hnp : ∀ s ∈ ss, ¬ pend s) (pt : Nat → TypeId) :
    Good P (startFr pt (E.callee ss) (E.calleeJ ss)) (E.callee ss) (locOf (ss.map l) none) (fun _ => False) := by
  have hcases : ∀ s, (locOf (ss.map l) none s = .dead ∧ (E.callee ss).rho s = none) ∨ ∃ i a, s = OUT + i ∧ ss[i]? = some a ∧ locOf (ss.map l) none s = l a := by
    intro s
    by_cases hd : locOf (ss.map l) none s = .dead
    · left
      refine ⟨hd, ?_⟩
      cases hr : (E.callee ss).rho s with
      | none => rfl
      | some g =>
        obtain ⟨i, a, rfl, ha, hg⟩ := callee_some hr
        rw [locOf_out, List.getElem?_map, ha] at hd
        obtain ⟨q, e⟩ := hob a (List.mem_of_getElem? ha)
        have hd' : l a = .dead := by simpa using hd
        rw [hd'] at e; cases e
    · obtain ⟨k, rfl, hk, hk2⟩ := locOf_ge hd
      right
      have hk' : k < ss.length := by simpa using hk
      refine ⟨k, ss[k], rfl, List.getElem?_eq_getElem hk', ?_⟩
      rw [locOf_out, List.getElem?_map, List.getElem?_eq_getElem hk']; rfl
  refine ⟨fun s _ => ?_, fun s h => h.elim, fun a b g ha hb => ?_, fun s g h => .inr ⟨s, h⟩, fun b k hp => ⟨(hG.prot b k hp).1, fun s hs => ?_⟩, ⟨rfl, fun _ h => ⟨h, rfl⟩⟩, .refl _ _, fun b k hp => .inl hp, Nat.le_refl _, rfl, rfl, rfl, frJ_yok _ _, fun s g hs hy => ?_, fun b hb => hb.1, fun r hr => by cases hr⟩
  · rcases hcases s with ⟨h1, h2⟩ | ⟨i, a, rfl, ha, h1⟩
    · rw [h1]; exact .dead h2
    · rw [h1]
      have hm := List.mem_of_getElem? ha
      exact ObjOk.ren (E := E) (E' := E.callee ss) (a := a) (s' := OUT + i) rfl rfl (callee_rho ha) (callee_bs ha) (hob a hm) (hG.obj a (hnp a hm))
  · obtain ⟨i, x, rfl, hx, h1⟩ := callee_some ha
    obtain ⟨j, y, rfl, hy, h2⟩ := callee_some hb
    have hxy := hG.inj x y g h1 h2
    subst hxy
    rw [nodup_inj hn hx hy]
  · obtain ⟨i, a, rfl, ha, h1⟩ := callee_some hs
    rw [locOf_out, List.getElem?_map, ha]
    exact (hG.prot b k hp).2 a h1
  · obtain ⟨i, a, rfl, ha, h1⟩ := callee_some hs
    exact hy.2 a (List.mem_of_getElem? ha) h1

/-- The caller's world behind a call. -/
def Env.back (E E' : Env) : Env := { E with w := E'.w, Pr := E'.Pr }

theorem good_back (hG : Good P A E l pend) {ss : List Nat} (hn : ss.Nodup) (hnp : ∀ s ∈ ss, ¬ pend s) {pt : Nat → TypeId} {E' : Env} {os : List Obj} {lg : Option Log} (hG' : Good P (startFr pt (E.callee ss) (E.calleeJ ss)) E' (locOf os lg) (fun _ => False))
    (hrho : ∀ k, k < ss.length → ∀ g, (E.callee ss).rho (OUT + k) = some g → E'.rho (OUT + k) = some g ∧ E'.bs (OUT + k) = (E.callee ss).bs (OUT + k)) {l' : Loc} (hlog : l'.log = l.log) (hother : ∀ s, s ∉ ss → l' s = l s)
    (hthese : ∀ (i : Nat) (s : Nat), ss[i]? = some s → Same (l s) (l' s) ∧ os[i]? = some (l' s)) :
    Good P A (E.back E') l' pend ∧ Held E.w E.Pr (E.back E').w (E.back E').Pr ∧ ∀ s, Keeps1 E (E.back E') l l' s := by
  have hx : Held E.w E.Pr (E.back E').w (E.back E').Pr := hG'.pr0
  have hk : ∀ s, Keeps1 E (E.back E') l l' s := by
    intro s
    by_cases hm : s ∈ ss
    · obtain ⟨i, hi, e⟩ := List.mem_iff_getElem.1 hm
      obtain ⟨h1, h2⟩ := hthese i s (by rw [List.getElem?_eq_getElem hi, e])
      exact .inr ⟨fun hd => (by rw [hd] at h1; cases h1), rfl, rfl, h1.sh⟩
    · by_cases hd : l s = .dead
      · exact .inl ((hother s hm).trans hd)
      · exact .inr ⟨hd, rfl, rfl, .same (hother s hm)⟩
  have hM : ∀ b, (startFr pt (E.callee ss) (E.calleeJ ss)).M b ↔ ∃ s ∈ ss, E.rho s = some b := by
    intro b
    constructor
    · rintro ⟨s, hs⟩
      obtain ⟨i, a, rfl, ha, hg⟩ := callee_some hs
      exact ⟨a, List.mem_of_getElem? ha, hg⟩
    · rintro ⟨s, hs, hg⟩
      obtain ⟨i, hi, e⟩ := List.mem_iff_getElem.1 hs
      exact ⟨OUT + i, by rw [callee_rho (s := s) (by rw [List.getElem?_eq_getElem hi, e])]; exact hg⟩
  have hold : ∀ b, b < E.w.heap.size → (∀ s ∈ ss, E.rho s ≠ some b) → E'.w.heap[b]? = E.w.heap[b]? := by
    intro b hb hno
    exact (hG'.jf.2 b ⟨hb, hno⟩).2
  refine ⟨⟨fun s hp => ?_, fun s hp => ?_, hG.inj, hG.base, fun b k hp => ⟨(hG'.prot b k hp).1, fun s hs => ?_⟩, hG.jstep rfl hlog hx (fun b k hp => ?_) (fun b hb => hold b (hG.ylt b hb) fun s _ hg => hG.yown s b hg hb) hG'.size hG'.os hG'.tape hG'.output, hG.pr0.trans hx, fun b k hp => ?_, Nat.le_trans hG.size hG'.size, hG'.os.trans hG.os, hG'.tape.trans hG.tape, hG'.output.trans hG.output, hG.yok, hG.yown, fun b hb => Nat.lt_of_lt_of_le (hG.ylt b hb) hG'.size, fun r hr => ⟨(hold r (Array.getElem?_eq_some_iff.1 (hG.dm r hr).1).1 fun s _ => hG.dmno hr s).trans (hG.dm r hr).1, (hG.dm r hr).2⟩⟩, hx, hk⟩
  · by_cases hm : s ∈ ss
    · obtain ⟨i, hi, e⟩ := List.mem_iff_getElem.1 hm
      have hi' : ss[i]? = some s := by rw [List.getElem?_eq_getElem hi, e]
      obtain ⟨h1, h2⟩ := hthese i s hi'
      have h0 := hG'.obj (OUT + i) (fun h => h)
      rw [locOf_out, h2] at h0
      obtain ⟨_, _, _, _, _, q0, q⟩ := h1.tc
      cases hg : E.rho s with
      | none =>
        have h3 := hG.obj s hp
        generalize l s = o at h1 h3 q0
        generalize l' s = o' at h1
        cases h3 with
        | dead h => cases q0
        | ob h _ _ => rw [hg] at h; cases h
        | sbNil h =>
          cases h1 with
          | @sb _ _ fz2 _ cs2 hl hf =>
            obtain rfl : cs2 = [] := List.eq_nil_of_length_eq_zero (by simpa using hl)
            obtain rfl : fz2 = 0 := by rcases hf with hf | hf <;> simpa using hf
            exact .sbNil hg
        | sb h _ _ => rw [hg] at h; cases h
        | rf h _ _ _ _ _ => rw [hg] at h; cases h
      | some g =>
      obtain ⟨e1, e2⟩ := hrho i hi g (by rw [callee_rho hi']; exact hg)
      rw [← hg] at e1
      rw [callee_bs hi'] at e2
      exact ObjOk.ren (E := E') (E' := E.back E') (a := OUT + i) (s' := s) rfl rfl e1.symm e2.symm ⟨_, q⟩ h0
    · rw [hother s hm]
      refine (hG.obj s hp).keep hx rfl rfl (fun g hg => hold g (hG.lt hg) fun a ha hga => hm (hG.inj s a g hg hga ▸ ha)) fun _ _ _ _ hu => hu.mono0 hx hk
  · obtain ⟨h1, cs, hz, ho⟩ := hG.pnd s hp
    exact ⟨h1, cs, hz, (hother s fun hm => hnp s hm hp).trans ho⟩
  · by_cases hm : s ∈ ss
    · obtain ⟨i, hi, e⟩ := List.mem_iff_getElem.1 hm
      have hi' : ss[i]? = some s := by rw [List.getElem?_eq_getElem hi, e]
      obtain ⟨h1, h2⟩ := hthese i s hi'
      have e1 := (hrho i hi b (by rw [callee_rho hi']; exact hs)).1
      have h4 := (hG'.prot b k hp).2 (OUT + i) e1
      rw [locOf_out, h2] at h4
      exact h4
    · rw [hother s hm]
      rcases hG'.prN b k hp with h | h | h
      · exact (hG.prot b k h).2 s hs
      · have h1 : E.w.heap.size ≤ b := h
        have h2 := hG.lt (s := s) hs
        omega
      · obtain ⟨a, ha, hga⟩ := (hM b).1 h
        exact absurd (hG.inj s a b hs hga ▸ ha) hm
  · rcases hG'.prN b k hp with h | h | h
    · exact .inl h
    · exact .inr fun hy => Nat.lt_irrefl _ (Nat.lt_of_lt_of_le (hG.ylt b hy) h)
    · obtain ⟨a, _, hga⟩ := (hM b).1 h
      exact .inr (hG.yown a b hga)
  · rcases hG'.prN b k hp with h | h | h
    · exact hG.prN b k h
    · exact .inr (.inl (Nat.le_trans hG.size h))
    · obtain ⟨a, ha, hga⟩ := (hM b).1 h
      exact .inr (hG.base a b hga)

theorem log0_none {ys : List V} (h : noYl ys = true) : log0 ys = none := by
  cases ys with
  | nil => rfl
  | cons y ys =>
    cases y with
    | c c => cases c <;> first | rfl | (cases h; done)
    | _ => rfl

/-- New blocks alone: what was stays as it was. -/
theorem good_grow (hG : Good P A E l pend) {w' : World} (hx : Held E.w E.Pr w' E.Pr) (hh : ∀ b, b < E.w.heap.size → w'.heap[b]? = E.w.heap[b]?) (hs : E.w.heap.size ≤ w'.heap.size) (ho : w'.os = E.w.os) (ht : w'.tape = E.w.tape) (hu : w'.output = E.w.output) :
    Good P A { E with w := w' } l pend ∧ ∀ s, Keeps1 E { E with w := w' } l l s := by
  have hk : ∀ s, Keeps1 E { E with w := w' } l l s := fun s => by
    by_cases hd : l s = .dead
    · exact .inl hd
    · exact .inr ⟨hd, rfl, rfl, .same rfl⟩
  refine ⟨⟨fun s hp => ?_, hG.pnd, hG.inj, hG.base, fun b k hp => ⟨?_, (hG.prot b k hp).2⟩, hG.jstep rfl rfl hx (fun _ _ h => .inl h) (fun b hb => hh b (hG.ylt b hb)) hs ho ht hu, hG.pr0.trans hx, hG.prN, Nat.le_trans hG.size hs, ho.trans hG.os, ht.trans hG.tape, hu.trans hG.output, hG.yok, hG.yown, fun b hb => Nat.lt_of_lt_of_le (hG.ylt b hb) hs, fun r hr => ⟨(hh r (Array.getElem?_eq_some_iff.1 (hG.dm r hr).1).1).trans (hG.dm r hr).1, (hG.dm r hr).2⟩⟩, hk⟩
  · exact (hG.obj s hp).keep hx rfl rfl (fun g hg => hh g (hG.lt hg)) fun _ _ _ _ hu => hu.mono0 hx hk
  · exact Nat.lt_of_lt_of_le (hG.prot b k hp).1 hs

/-- No references. -/
def FlatC (c : C) : Prop := ∃ x, c = .v x
inductive FlatV : V → Prop
  | c {c : C} (h : FlatC c) : FlatV (.c c)
  | agg {cs : List C} (h : ∀ c ∈ cs, FlatC c) : FlatV (.agg cs)
  | tup {vs : List V} (h : ∀ x ∈ vs, (∃ c, x = .c c ∧ FlatC c) ∨ ∃ cs, x = .agg cs ∧ ∀ c ∈ cs, FlatC c) : FlatV (.tup vs)
  | und : FlatV .und

theorem FlatC.rc {w w' : World} {Pr Pr' : Nat → Nat → Prop} {c : C} {u : Value} (hc : FlatC c) (h : RC w Pr c u) : RC w' Pr' c u := by
  obtain ⟨x, rfl⟩ := hc
  cases h with | v h => exact .v h
theorem FlatV.rv {E E' : Env} {l l' : Loc} {y : V} (hp : FlatV y) {u : Value} (h : RV P E l y u) : RV P E' l' y u := by
  cases hp with
  | c hc => cases h with | c h => exact .c (hc.rc h)
  | agg hc => cases h with | agg h => exact .agg ⟨h.1, fun j c u hj hu => (hc c (List.mem_of_getElem? hj)).rc (h.2 j c u hj hu)⟩
  | tup hv =>
    cases h with
    | tup hs h =>
      refine .tup hs fun j x u hx' hu => ?_
      have h1 := h j x u hx' hu
      rcases hv x (List.mem_of_getElem? hx') with ⟨c, rfl, hc⟩ | ⟨cs, rfl, hc⟩
      · cases h1 with | c h => exact .c (hc.rc h)
      · cases h1 with | agg h => exact .agg ⟨h.1, fun j c u hj hu => (hc c (List.mem_of_getElem? hj)).rc (h.2 j c u hj hu)⟩
  | und => exact .und

theorem getLf_flat {lf : Lf} (hf : lf.isO = false) {c : C} {k : C → Option R} (h : getLf lf c k = some r) : FlatC c := by
  cases lf with
  | o => cases hf
  | i kd =>
    simp only [getLf, asI] at h
    split at h
    · exact ⟨_, rfl⟩
    · cases h
  | b =>
    simp only [getLf, asB] at h
    split at h
    · exact ⟨_, rfl⟩
    · cases h
  | s =>
    simp only [getLf, asS] at h
    split at h
    · exact ⟨_, rfl⟩
    · cases h
theorem getLfs_flat : ∀ {ls : List Lf} {cs : List C} {k : List C → Option R} (_ : (ls.all fun l => !l.isO) = true) (_ : getLfs ls cs k = some r), ∀ c ∈ cs.take ls.length, FlatC c
  | [], cs, k, _, h => by simp
  | lf :: ls, [], k, _, h => by cases h
  | lf :: ls, c :: cs, k, hf, h => by
    simp only [List.all_cons, Bool.and_eq_true, Bool.not_eq_true'] at hf
    have h1 : getLf lf c (fun c' => getLfs ls cs fun cs' => k (c' :: cs')) = some r := h
    have h2 := getLfs_flat (ls := ls) (by simpa using hf.2) (getLf_eq h1)
    intro x hx
    simp only [List.length_cons, List.take_succ_cons, List.mem_cons] at hx
    rcases hx with rfl | hx
    · exact getLf_flat hf.1 h1
    · exact h2 x hx

theorem retV_flat {t : TypeId} (hf : flatT P t = true) {x : V} {k : V → Option R} (h : retV P t x k = some r) : (∃ c, x = .c c ∧ FlatC c) ∨ ∃ cs, x = .agg cs ∧ ∀ c ∈ cs, FlatC c := by
  unfold flatT at hf
  unfold retV at h
  split at h
  · unfold rA at h
    split at h
    · rename_i cs
      refine .inr ⟨cs, rfl, ?_⟩
      split at h
      · rename_i ls hls
        rw [hls] at hf
        obtain ⟨hb, h⟩ := need_some h
        have h2 := Nat.eq_of_beq_eq_true hb
        have h1 := getLfs_flat hf h
        rw [← h2, List.take_length] at h1
        exact h1
      · rename_i hls; rw [hls] at hf; cases hf
    · cases h
  · split at h
    · rename_i lf hls
      rw [hls] at hf
      unfold rC at h
      split at h
      · rename_i c
        exact .inl ⟨c, rfl, getLf_flat (by simpa using hf) (k := fun c' => k (.c c')) h⟩
      · cases h
    · cases h
theorem retL_flat : ∀ {ts : List TypeId} (_ : ts.all (flatT P) = true) {xs : List V} {k : List V → Option R} (_ : retL P ts xs k = some r), ∀ x ∈ xs, (∃ c, x = .c c ∧ FlatC c) ∨ ∃ cs, x = .agg cs ∧ ∀ c ∈ cs, FlatC c
  | [], _, xs, k, h => by
    unfold retL at h
    split at h
    · simp
    · cases h
  | t :: ts, hf, xs, k, h => by
    simp only [List.all_cons, Bool.and_eq_true] at hf
    unfold retL uncV at h
    split at h
    · cases h
    · rename_i x ys
      have h1 := retV_flat hf.1 h
      obtain ⟨_, h2⟩ := retV_eq h
      have h3 := retL_flat (ts := ts) hf.2 h2
      intro z hz
      rcases List.mem_cons.1 hz with rfl | hz
      · exact h1
      · exact h3 z hz
theorem retK_flat {t : TypeId} (hf : flatR P t = true) {x : V} {k : V → Option R} (h : retK P t x k = some r) : ∃ y, FlatV y ∧ k y = some r ∧ (y = x ∨ y = .und) := by
  unfold flatR at hf
  unfold retK at h
  split at h
  · rename_i ts hts
    rw [hts] at hf
    split at h
    · exact ⟨.und, .und, h, .inr rfl⟩
    · unfold rT at h
      split at h
      · rename_i vs
        have h1 := retL_flat hf h
        exact ⟨_, .tup h1, (retL_eq h).2, .inl rfl⟩
      · cases h
  · rename_i hne
    have hf' : flatT P t = true := by
      split at hf
      · rename_i ts hts; exact absurd hts (hne ts)
      · exact hf
    have h1 := retV_flat hf' h
    have h2 := (retV_eq h).2
    rcases h1 with ⟨c, rfl, hc⟩ | ⟨cs, rfl, hc⟩
    · exact ⟨_, .c hc, h2, .inl rfl⟩
    · exact ⟨_, .agg hc, h2, .inl rfl⟩

/-- How far the taking of a call's new objects has come: 'E1': the caller's world ahead of the call, 'E2': the callee's behind it. -/
structure Tk (A : Fr) (pend : Nat → Prop) (E1 E2 : Env) (m : Nat) (objs : List Obj) (Ec : Env) (lc : Loc) (os : List Obj) (i : Nat) : Prop where
  good : Good P A Ec lc pend
  w : Ec.w = E2.w
  Pr : Ec.Pr = E2.Pr
  D : Ec.D = E1.D
  Y : Ec.Y = E1.Y
  os : os = objs.drop (m + i)
  no : ∀ i', i ≤ i' → ∀ g, E2.rho (OUT + (m + i')) = some g → ∀ a, Ec.rho a ≠ some g

/-- What is kept of the callee. -/
structure Cal (A : Fr) (E1 E2 : Env) (m : Nat) (objs : List Obj) (lg : Option Log) : Prop where
  obj : ∀ s, ObjOk P E2 (locOf objs lg) s (locOf objs lg s)
  inj : ∀ s s' g, E2.rho s = some g → E2.rho s' = some g → s = s'
  prot : ∀ b k, E2.Pr b k → ∀ s, E2.rho s = some b → k < (locOf objs lg s).fz
  base : ∀ i g, E2.rho (OUT + (m + i)) = some g → A.w0.heap.size ≤ g ∨ A.M g
  ny : ∀ i g, E2.rho (OUT + (m + i)) = some g → ¬ E1.Y g

theorem Tk.adopt {E1 E2 : Env} {m : Nat} {objs : List Obj} {lg : Option Log} (hC : Cal (P := P) A E1 E2 m objs lg) {Ec : Env} {lc : Loc} {o : Obj} {os : List Obj} {i : Nat} (hT : Tk (P := P) A pend E1 E2 m objs Ec lc (o :: os) i) {site g : Nat} (hp : ¬ pend site)
    (hr : E2.rho (OUT + (m + i)) = some g) {te : TypeId} {cs : List C} (ho : o = .ob te 0 cs ∨ o = .sb te 0 cs) :
    ∃ Ec2, Tk (P := P) A pend E1 E2 m objs Ec2 ((lc.kill site).put site o) os (i + 1) ∧ Ec2.rho site = some g ∧ Ec2.bs site = E2.bs (OUT + (m + i)) ∧ ∀ z v, RV P Ec lc z v → z.at site = false → RV P Ec2 ((lc.kill site).put site o) z v := by
  have hox : objs[m + i]? = some o := by
    have : (objs.drop (m + i))[0]? = some o := by rw [← hT.os]; rfl
    rwa [List.getElem?_drop, Nat.add_zero] at this
  have hlx : locOf objs lg (OUT + (m + i)) = o := by rw [locOf_out, hox]; rfl
  have h0 := hC.obj (OUT + (m + i))
  rw [hlx] at h0
  have hblk : Blk E2 (OUT + (m + i)) g te cs := by
    rcases ho with rfl | rfl
    · cases h0 with | ob h1 h2 _ => rw [hr] at h1; injection h1 with h1; subst h1; exact h2
    · cases h0 with
      | sbNil h1 => rw [h1] at hr; cases hr
      | sb h1 h2 _ => rw [hr] at h1; injection h1 with h1; subst h1; exact h2
  obtain ⟨cur, c1, c2, c3, c4⟩ := hblk
  have hofz : o.fz = 0 := by rcases ho with rfl | rfl <;> rfl
  have hq := hT.good.kill hp
  have hsame := setRow_self E2.w g cur te (0, 0) c1
  have hw' : (Ec.kill lc site).w = E2.w := hT.w
  have hPr' : (Ec.kill lc site).Pr = E2.Pr := hT.Pr
  obtain ⟨a1, a2, a3⟩ := good_adopt (P := P) (A := A) hq (d := site) (g := g) (kill_at site lc) hp (fun a ha => hT.no i (Nat.le_refl _) g hr a (kill_rho ha)) (by show ¬ Ec.Y g; rw [hT.Y]; exact hC.ny i g hr) (hC.base i g hr) (cur := cur) (cur' := cur) (t := te) (by rw [hw']; exact c1) rfl (fz := 0) (fun k hk => by
      rw [hPr'] at hk
      have := hC.prot g k hk _ hr
      rw [hlx, hofz] at this; exact this) (fun _ _ => rfl) (cs := cs) (ob := o) ho (Nat.zero_le _) c3 (by rw [hw', hPr']; exact c4) (kill_ref site lc)
  refine ⟨(Ec.kill lc site).adopt site g cur, ⟨a1, ?_, hPr', hT.D, hT.Y, ?_, fun i' hi g' hg' a ha => ?_⟩, by simp [Env.adopt], by simp [Env.adopt]; exact c2, fun z v hz hk => ?_⟩
  · show (Ec.kill lc site).w.setRow g cur = E2.w
    rw [hw', hsame]
  · have h1 := hT.os
    have h2 : os = (objs.drop (m + i)).drop 1 := by rw [← h1]; rfl
    rw [h2, List.drop_drop]; congr 1
  · by_cases e : a = site
    · subst e
      have e1 : g = g' := by simpa [Env.adopt] using ha
      subst e1
      have := hC.inj _ _ g hr hg'
      omega
    · have h1 : (Ec.kill lc site).rho a = some g' := by simpa [Env.adopt, e] using ha
      exact hT.no i' (by omega) g' hg' a (kill_rho h1)
  · exact (rv_kill site hz).mono (fun s => s = site) a2 (fun s hs => a3 s hs) (fun s hs => by subst hs; exact hk)

/-- An empty slice that is handed out. -/
theorem Tk.nil {E1 E2 : Env} {m : Nat} {objs : List Obj} {Ec : Env} {lc : Loc} {o : Obj} {os : List Obj} {i : Nat} (hT : Tk (P := P) A pend E1 E2 m objs Ec lc (o :: os) i) {site : Nat} (hp : ¬ pend site) (te : TypeId) :
    ∃ Ec2, Tk (P := P) A pend E1 E2 m objs Ec2 ((lc.kill site).put site (.sb te 0 [])) os (i + 1) ∧ Ec2.rho site = none ∧ ∀ z v, RV P Ec lc z v → z.at site = false → RV P Ec2 ((lc.kill site).put site (.sb te 0 [])) z v := by
  have hq := hT.good.kill hp
  obtain ⟨q1, q2⟩ := good_nil hq (kill_at site lc) hp te (kill_ref site lc)
  refine ⟨Ec.kill lc site, ⟨q1, hT.w, hT.Pr, hT.D, hT.Y, ?_, fun i' hi g' hg' a ha => hT.no i' (by omega) g' hg' a (kill_rho ha)⟩, kill_rho_self Ec lc site, fun z v hz hk => ?_⟩
  · have h1 := hT.os
    have h2 : os = (objs.drop (m + i)).drop 1 := by rw [← h1]; rfl
    rw [h2, List.drop_drop]; congr 1
  · exact (rv_kill site hz).mono (fun s => s = site) (.refl _ _) (fun s hs => q2 s hs) (fun s hs => by subst hs; exact hk)

/-- What one result may lead to. -/
def Only (y : V) (site : Nat) : Prop := (∃ off, y = .ptr site off) ∨ (∃ off n, y = .own site off n) ∨ (∃ c, y = .c c) ∨ ∃ cs, y = .agg cs
theorem Only.at {y : V} {site s : Nat} (h : Only y site) (hs : s ≠ site) : y.at s = false := by
  have hb : Nat.beq site s = false := by
    cases e : Nat.beq site s
    · rfl
    · exact absurd (Nat.eq_of_beq_eq_true e).symm hs
  rcases h with ⟨off, rfl⟩ | ⟨off, n, rfl⟩ | ⟨c, rfl⟩ | ⟨cs, rfl⟩ <;> simp [V.at, hb]

theorem take1_sound {E1 E2 : Env} {m : Nat} {objs : List Obj} {lg : Option Log} (hC : Cal (P := P) A E1 E2 m objs lg) {Ec : Env} {lc : Loc} {os : List Obj} {i : Nat} (hT : Tk (P := P) A pend E1 E2 m objs Ec lc os i) {site : Nat} (hp : ¬ pend site)
    {x : Option TypeId} {ty : TypeId} {v : V} {u : Value} (hv : RV P E2 (locOf objs lg) v u) {k : V → Nat → List Obj → Loc → List Nat → Option R} (h : take1 P m site i x ty v os lc k = some r) :
    ∃ y i2 os2 l2 ks Ec2, k y i2 os2 l2 ks = some r ∧ Tk (P := P) A pend E1 E2 m objs Ec2 l2 os2 i2 ∧ RV P Ec2 l2 y u ∧ Only y site ∧ (∀ s ∈ ks, s = site) ∧ ∀ z w, RV P Ec lc z w → (∀ s ∈ ks, z.at s = false) → RV P Ec2 l2 z w := by
  unfold take1 at h
  split at h
  · obtain ⟨h1, h2⟩ := retV_eq h
    refine ⟨v, i, os, lc, [], Ec, h2, hT, ?_, ?_, by simp, fun z w hz _ => hz⟩
    · have hw : Held E2.w E2.Pr Ec.w Ec.Pr := by rw [hT.w, hT.Pr]; exact .refl _ _
      rcases h1 with ⟨c, rfl⟩ | ⟨cs, rfl⟩
      · cases hv with | c h => exact .c (h.held hw)
      · cases hv with | agg h => exact .agg (h.held hw)
    · rcases h1 with ⟨c, rfl⟩ | ⟨cs, rfl⟩
      · exact .inr (.inr (.inl ⟨c, rfl⟩))
      · exact .inr (.inr (.inr ⟨cs, rfl⟩))
  · rename_i te
    obtain ⟨_, h⟩ := need_some h
    split at h
    · obtain ⟨rfl, h1⟩ := rP_eq h
      obtain ⟨o, os', rfl, h2⟩ := uncO_eq h1
      obtain ⟨cs, rfl, h3⟩ := rO_eq h2
      have h4 : k (.ptr site 0) (i + 1) os' ((lc.kill site).put site (.ob te 0 cs)) [site] = some r := by
        split at h3
        · obtain ⟨hb, h7⟩ := need_some h3
          have h8 := getLfs_eq h7
          rw [← Nat.eq_of_beq_eq_true hb, List.take_length] at h8
          exact h8.2
        · exact h3
      have hox : objs[m + i]? = some (.ob te 0 cs) := by
        have : (objs.drop (m + i))[0]? = some (.ob te 0 cs) := by rw [← hT.os]; rfl
        rwa [List.getElem?_drop, Nat.add_zero] at this
      have hlx : locOf objs lg (OUT + (m + i)) = .ob te 0 cs := by rw [locOf_out, hox]; rfl
      cases hv with
      | ptrDead hd => rw [hlx] at hd; cases hd
      | @ptr _ _ g hr =>
        obtain ⟨Ec2, t1, t2, t3, t4⟩ := hT.adopt hC hp hr (.inl rfl)
        exact ⟨_, _, _, _, _, Ec2, h4, t1, .ptr t2, .inl ⟨0, rfl⟩, by simp, fun z w hz hk => t4 z w hz (hk site (by simp))⟩
    · obtain ⟨n, rfl, h1⟩ := rW_eq h
      obtain ⟨o, os', rfl, h2⟩ := uncO_eq h1
      obtain ⟨cs, rfl, h3⟩ := rS_eq h2
      obtain ⟨hb, h4⟩ := need_some h3
      rw [Bool.and_eq_true] at hb
      have hn := Nat.eq_of_beq_eq_true hb.1
      have hox : objs[m + i]? = some (.sb te 0 cs) := by
        have : (objs.drop (m + i))[0]? = some (.sb te 0 cs) := by rw [← hT.os]; rfl
        rwa [List.getElem?_drop, Nat.add_zero] at this
      have hlx : locOf objs lg (OUT + (m + i)) = .sb te 0 cs := by rw [locOf_out, hox]; rfl
      cases hv with
      | ownDead hd => rw [hlx] at hd; cases hd
      | ownRf hd => rw [hlx] at hd; cases hd
      | own0 _ _ hoff => exact absurd rfl hoff
      | ownNil hr hl =>
        rw [hlx] at hl
        injection hl with e1 e2 e3
        subst e1 e3
        obtain ⟨Ec2, t1, t2, t3⟩ := hT.nil hp te
        exact ⟨_, _, _, _, _, Ec2, h4, t1, .ownNil (fz := 0) t2 (put_same _ _ _), .inr (.inl ⟨0, 0, rfl⟩), by simp, fun z w hz hk => t3 z w hz (hk site (by simp))⟩
      | @own _ _ _ g cap t' fz' cs' hr hl hn' hc hs =>
        rw [hlx] at hl
        injection hl with hl; injection hl with e1 e2; injection e2 with e2 e3
        subst e1 e2 e3
        obtain ⟨Ec2, t1, t2, t3, t4⟩ := hT.adopt hC hp hr (.inr rfl)
        exact ⟨_, _, _, _, _, Ec2, h4, t1, .own (t := te) (fz := 0) (cs := cs) t2 (by rw [put_same]; rfl) hn' hc (hs.trans t3.symm), .inr (.inl ⟨0, n, rfl⟩), by simp, fun z w hz hk => t4 z w hz (hk site (by simp))⟩
    · cases h

theorem nsite_inj {d i j : Nat} (h : nsite d i = nsite d j) : i = j := by unfold nsite at h; omega

theorem takeL_sound {E1 E2 : Env} {m d : Nat} {objs : List Obj} {lg : Option Log} (hC : Cal (P := P) A E1 E2 m objs lg) : ∀ {ts : List TypeId} {j i : Nat} {xo : List (Option TypeId)} {xs : List V} {us : List Value} {os : List Obj} {Ec : Env} {lc : Loc}
    (_ : Tk (P := P) A pend E1 E2 m objs Ec lc os i) (_ : us.length = xs.length) (_ : ∀ (j : Nat) (x : V) (u : Value), xs[j]? = some x → us[j]? = some u → RV P E2 (locOf objs lg) x u)
    {k : List V → Loc → List Nat → Option R} (_ : takeL P m d j i xo ts xs os lc k = some r),
    ∃ ys l2 ks Ec2, k ys l2 ks = some r ∧ (Good P A Ec2 l2 pend ∧ Ec2.w = E2.w ∧ Ec2.Pr = E2.Pr ∧ Ec2.D = E1.D) ∧ ys.length = us.length ∧ (∀ (q : Nat) (y : V) (u : Value), ys[q]? = some y → us[q]? = some u → RV P Ec2 l2 y u) ∧ (∀ s ∈ ks, ∃ q, j ≤ q ∧ s = nsite d q) ∧
      ∀ z w, RV P Ec lc z w → (∀ s ∈ ks, z.at s = false) → RV P Ec2 l2 z w
  | [], j, i, xo, xs, us, os, Ec, lc, hT, hl, hx, k, h => by
    unfold takeL at h
    split at h
    · exact ⟨[], lc, [], Ec, h, ⟨hT.good, hT.w, hT.Pr, hT.D⟩, by simpa using hl.symm, by simp, by simp, fun z w hz _ => hz⟩
    · cases h
  | t :: ts, j, i, xo, xs, us, os, Ec, lc, hT, hl, hx, k, h => by
    unfold takeL uncV at h
    split at h
    · cases h
    · rename_i x ys
      cases us with
      | nil => simp at hl
      | cons u us =>
        obtain ⟨hlv, h⟩ := need_some h
        have hpj : ¬ pend (nsite d j) := fun hp => by
          obtain ⟨_, cs, _, e⟩ := hT.good.pnd _ hp
          rw [e] at hlv; cases hlv
        obtain ⟨y, i2, os2, l2, ks, Ec2, h1, hT2, hy, hon, hks, hpres⟩ := take1_sound hC hT hpj (hx 0 x u rfl rfl) h
        obtain ⟨ys2, l3, ks3, Ec3, h3, g3, hl3, hx3, hks3, hpres3⟩ := takeL_sound hC (ts := ts) hT2 (us := us) (by simpa using hl) (fun q x u hx' hu => hx (q + 1) x u (by simpa using hx') (by simpa using hu)) h1
        refine ⟨y :: ys2, l3, ks ++ ks3, Ec3, h3, g3, by simp [hl3], fun q y' u' hy' hu' => ?_, fun s hs => ?_, fun z w hz hk => ?_⟩
        · cases q with
          | zero =>
            simp at hy' hu'; subst hy' hu'
            refine hpres3 _ _ hy fun s hs => hon.at fun e => ?_
            obtain ⟨q, hq, e2⟩ := hks3 s hs
            have := nsite_inj (e.symm.trans e2)
            omega
          | succ q => exact hx3 q y' u' (by simpa using hy') (by simpa using hu')
        · rcases List.mem_append.1 hs with hs | hs
          · exact ⟨j, Nat.le_refl _, hks s hs⟩
          · obtain ⟨q, hq, e⟩ := hks3 s hs
            exact ⟨q, by omega, e⟩
        · exact hpres3 z w (hpres z w hz fun s hs => hk s (by simp [hs])) fun s hs => hk s (by simp [hs])

theorem callK_sound (hG : Good P A E l pend) {cf : Cfg} (hP : cf.P = P) (hcon : ∀ f args objs out, cf.call f args objs = some out → ConAt P cf.glob f args objs out) (hgl : GlobOk cf.glob E.w E.Pr) {strict : Bool} {hds : List Nat} {xo : List (Option TypeId)} {f : FuncId} {xs : List V} {us : List Value}
    (hl : us.length = xs.length) (hx : ∀ (j : Nat) (x : V) (u : Value), xs[j]? = some x → us[j]? = some u → RV P E l x u) {ty : TypeId} {dst : Option Nat} (hd : ∀ d, dst = some d → ¬ pend d) {k : V → Loc → List Nat → Option R}
    (h : callK cf strict hds xo f xs ty dst l k = some r) :
    ∃ x l' ks, k x l' ks = some r ∧ Calls P f us.toArray E.w fun e w' => ∃ u, e = .returned u ∧ Up P A E l pend x l' ks u w' := by
  unfold callK at h
  simp only [hP] at h
  obtain ⟨ys, l1, ss, E1, h1, hG1, hM, hyl, ⟨rest, hrest⟩, hnd, hy, hst, hpt⟩ := marsh_sound hG hl hx (List.nodup_nil) h
  obtain ⟨hob, h2⟩ := need_some h1
  rw [Bool.and_eq_true] at hob
  have hlg : log0 ys = none := log0_none hob.2
  have hob := hob.1
  have hobs := allOb_eq hob
  rw [Option.bind_eq_some_iff] at h2
  obtain ⟨out, hcall, h3⟩ := h2
  obtain ⟨l2, ro, h4, hro, hle, hother, hlog, hthese⟩ := backK_eq hnd h3
  have hobs' : ∀ s ∈ ss, ∃ q, objTC (l1 s) = some q := fun s hs => hobs s hs
  -- a handed site is not one that is yet to be made: something leads to it
  have hnp : ∀ s ∈ ss, ¬ pend s := fun s hs => by
    rcases hpt s hs with h | h
    · cases h
    · exact h.npend hG1
  have hGc := good_callee hG1 hnd hobs' hnp A.pt
  have hargs : ∀ (j : Nat) (y : V) (u : Value), ys[j]? = some y → us[j]? = some u → RV P (E1.callee ss) (locOf (ss.map l1) (log0 ys)) y u := by
    intro j y u hy' hu'
    rcases hy j y u hy' hu' with ⟨c, rfl, hc⟩ | ⟨cs, vs, rfl, rfl, hc⟩ | ⟨i, off, s, rfl, hs, hr⟩ | ⟨i, off, n, s, rfl, hs, hr⟩
    · exact .c hc
    · exact .agg hc
    · obtain ⟨q, e⟩ := hobs s (List.mem_of_getElem? hs)
      cases hr with
      | ptrDead hd => rw [hd] at e; cases e
      | ptr hr => exact .ptr ((callee_rho hs).trans hr)
    · obtain ⟨q, e⟩ := hobs s (List.mem_of_getElem? hs)
      have hloc : locOf (ss.map l1) (log0 ys) (OUT + i) = l1 s := by rw [locOf_out, List.getElem?_map, hs]; rfl
      cases hr with
      | ownDead hd => rw [hd] at e; cases e
      | ownRf hd => rw [hd] at e; cases e
      | ownNil h1 h2 => exact .ownNil ((callee_rho hs).trans h1) (hloc.trans h2)
      | own h1 h2 h3 h4 h5 => exact .own ((callee_rho hs).trans h1) (by rw [hloc]; exact h2) h3 h4 (h5.trans (callee_bs hs).symm)
      | own0 h1 h2 h3 => exact .own0 ((callee_rho hs).trans h1) (by rw [hloc]; exact h2) h3
  have hC := hcon f ys (ss.map l1) out hcall A.pt (E1.callee ss) us (E1.calleeJ ss) hyl.symm rfl (hgl.held hM.held) (by rw [hlg]; exact hGc) hargs
  have hback : ∀ E', Good P (startFr A.pt (E1.callee ss) (E1.calleeJ ss)) E' (locOf out.objs out.log) (fun _ => False) → (∀ k, k < (ss.map l1).length → ∀ g, (E1.callee ss).rho (OUT + k) = some g → E'.rho (OUT + k) = some g ∧ E'.bs (OUT + k) = (E1.callee ss).bs (OUT + k)) →
      Good P A (E1.back E') l2 pend ∧ Held E1.w E1.Pr (E1.back E').w (E1.back E').Pr ∧ ∀ s, Keeps1 E1 (E1.back E') l1 l2 s := by
    intro E' hG' hrho
    exact good_back hG1 hnd hnp hG' (fun k hk => hrho k (by simpa using hk)) hlog hother hthese
  have hplain : ∀ (y : V), PureV y → (y = out.r ∨ y = .und) → k y l2 [] = some r → ∃ x l' ks, k x l' ks = some r ∧ Calls P f us.toArray E.w fun e w' => ∃ u, e = .returned u ∧ Up P A E l pend x l' ks u w' := by
    intro y hpy hyo hk
    refine ⟨y, l2, [], hk, ?_⟩
    rw [← hM.w]
    refine hC.mono fun e w' => ?_
    rintro ⟨u, E', he, hw, hG', hr, hrho⟩
    obtain ⟨q1, q2, q3⟩ := hback E' hG' hrho
    refine ⟨u, he, E1.back E', hw, ⟨q1, hM.D⟩, ?_, fun z v hz _ => (hM.rv hz).mono0 q2 q3⟩
    rcases hyo with rfl | rfl
    · exact hpy.rv (E := E') (E' := E1.back E') (.refl _ _) hr
    · exact .und
  split at h4
  · -- new objects are taken over
    rename_i d
    have hdp := hd _ rfl
    have hCal : ∀ E', Good P (startFr A.pt (E1.callee ss) (E1.calleeJ ss)) E' (locOf out.objs out.log) (fun _ => False) → (∀ k, k < (ss.map l1).length → ∀ g, (E1.callee ss).rho (OUT + k) = some g → E'.rho (OUT + k) = some g ∧ E'.bs (OUT + k) = (E1.callee ss).bs (OUT + k)) →
        Cal (P := P) A E1 E' ss.length out.objs out.log ∧ Tk (P := P) A pend E1 E' ss.length out.objs (E1.back E') l2 ro 0 := by
      intro E' hG' hrho
      obtain ⟨q1, q2, q3⟩ := hback E' hG' hrho
      have hfresh : ∀ i g, E'.rho (OUT + (ss.length + i)) = some g → E1.w.heap.size ≤ g ∨ ((∃ s ∈ ss, E1.rho s = some g) ∧ False) := by
        intro i g hg
        rcases hG'.base _ g hg with h | ⟨s, h⟩
        · exact .inl h
        · obtain ⟨i', x, rfl, hx', hgx⟩ := callee_some h
          have hi : i' < ss.length := (List.getElem?_eq_some_iff.1 hx').1
          have e1 := (hrho i' (by simpa using hi) g h).1
          have := hG'.inj _ _ g e1 hg
          omega
      have hnew : ∀ i g, E'.rho (OUT + (ss.length + i)) = some g → E1.w.heap.size ≤ g := fun i g hg => by
        rcases hfresh i g hg with h | ⟨_, h⟩
        · exact h
        · exact h.elim
      refine ⟨⟨fun s => hG'.obj s (fun h => h), hG'.inj, fun b k hp s hs => (hG'.prot b k hp).2 s hs, fun i g hg => .inl (Nat.le_trans hG1.size (hnew i g hg)), fun i g hg hy => ?_⟩, ⟨q1, rfl, rfl, rfl, rfl, by simpa using hro, fun i' _ g hg a ha => ?_⟩⟩
      · have := hG1.ylt g hy; have := hnew i g hg; omega
      · have h1 : E1.rho a = some g := ha
        have := hG1.lt h1; have := hnew i' g hg; omega
    unfold takeK at h4
    split at h4
    · rename_i ts hts
      unfold rT at h4
      split at h4
      · rename_i xs hr0
        -- the continuation is found at some run; the worlds vary
        have hnat := takeL_nat h4
        obtain ⟨ys', l3, ks, hnat, hk⟩ := hnat
        refine ⟨_, _, _, hk, ?_⟩
        rw [← hM.w]
        refine hC.mono fun e w' => ?_
        rintro ⟨u, E', he, hw, hG', hr, hrho⟩
        obtain ⟨hCc, hTk⟩ := hCal E' hG' hrho
        obtain ⟨q1, q2, q3⟩ := hback E' hG' hrho
        rw [hr0] at hr
        cases hr with
        | @tup _ us hs hxs =>
          obtain ⟨ys2, l4, ks4, Ec2, e4, ⟨g1, g2, g3, g4⟩, hl4, hx4, _, hpres⟩ := takeL_sound (P := P) hCc hTk hs hxs (k := fun a b c => some (a, b, c)) (hnat _)
          injection e4 with e4
          injection e4 with e5 e4
          injection e4 with e6 e7
          subst e5 e6 e7
          exact ⟨_, he, Ec2, g2.trans hw, ⟨g1, g4.trans hM.D⟩, .tup hl4.symm hx4, fun z v hz hks => hpres z v ((hM.rv hz).mono0 q2 q3) hks⟩
      · cases h4
    · have hnat := take1_nat h4
      obtain ⟨y, i2, os2, l3, ks, hnat, hk⟩ := hnat
      refine ⟨_, _, _, hk, ?_⟩
      rw [← hM.w]
      refine hC.mono fun e w' => ?_
      rintro ⟨u, E', he, hw, hG', hr, hrho⟩
      obtain ⟨hCc, hTk⟩ := hCal E' hG' hrho
      obtain ⟨q1, q2, q3⟩ := hback E' hG' hrho
      obtain ⟨y2, i3, os3, l4, ks4, Ec2, e4, hT2, hy2, _, _, hpres⟩ := take1_sound (P := P) hCc hTk hdp hr (k := fun a b c d e => some (a, b, c, d, e)) (hnat _)
      injection e4 with e4
      injection e4 with e5 e4
      injection e4 with e6 e4
      injection e4 with e7 e4
      injection e4 with e8 e9
      subst e5 e6 e7 e8 e9
      exact ⟨_, he, Ec2, hT2.w.trans hw, ⟨hT2.good, hT2.D.trans hM.D⟩, hy2, fun z v hz hks => hpres z v ((hM.rv hz).mono0 q2 q3) hks⟩
  · by_cases hfl : ss = [] ∧ flatR P ty = true
    · -- what was read may be written again
      obtain ⟨hss, hfl⟩ := hfl
      have e : thaw ss (flatR P ty) l l2 = l := by rw [hss, hfl]; rfl
      rw [e] at h4
      have hthaw : ∀ (y : V), FlatV y → (y = out.r ∨ y = .und) → k y l [] = some r → ∃ x l' ks, k x l' ks = some r ∧ Calls P f us.toArray E.w fun e w' => ∃ u, e = .returned u ∧ Up P A E l pend x l' ks u w' := by
        intro y hfy hyo hk
        refine ⟨y, l, [], hk, ?_⟩
        rw [← hM.w]
        refine hC.mono fun e w' => ?_
        rintro ⟨u, E', he, hw, hG', hr, hrho⟩
        have hx1 : Held E.w E.Pr E'.w E.Pr := fun b k hp => ⟨hp, (hG'.pr0 b k (hM.held b k hp).1).2.trans (hM.held b k hp).2⟩
        have hold : ∀ b, b < E.w.heap.size → E'.w.heap[b]? = E.w.heap[b]? := fun b hb => by
          have h1 := (hG'.jf.2 b ⟨by rw [hM.w]; exact hb, by rw [hss]; simp⟩).2
          rw [hM.w] at h1; exact h1
        have hsz : E.w.heap.size ≤ E'.w.heap.size := by
          have h1 : E1.w.heap.size ≤ E'.w.heap.size := hG'.size
          rw [hM.w] at h1; exact h1
        have ho : E'.w.os = E.w.os := by have h1 : E'.w.os = E1.w.os := hG'.os; rw [hM.w] at h1; exact h1
        have ht : E'.w.tape = E.w.tape := by have h1 : E'.w.tape = E1.w.tape := hG'.tape; rw [hM.w] at h1; exact h1
        have hu : E'.w.output = E.w.output := by have h1 : E'.w.output = E1.w.output := hG'.output; rw [hM.w] at h1; exact h1
        obtain ⟨q1, q2⟩ := good_grow hG hx1 hold hsz ho ht hu
        refine ⟨u, he, { E with w := E'.w }, hw, ⟨q1, rfl⟩, ?_, fun z v hz _ => hz.mono0 hx1 q2⟩
        rcases hyo with rfl | rfl
        · exact hfy.rv hr
        · exact .und
      obtain ⟨y, hfy, hk, hyo⟩ := retK_flat hfl h4
      exact hthaw y hfy hyo hk
    · have e : thaw ss (flatR P ty) l l2 = l2 := thaw_eq hfl
      rw [e] at h4
      obtain ⟨y, hpy, hk, hyo⟩ := retK_eq h4
      exact hplain y hpy hyo hk

end
end Go.PM
/- The pure machine: one operation, whatever it is. -/
namespace Go.PM
open Go

variable {P : Program}

section
variable {A : Fr} {E : Env} {l : Loc} {pend : Nat → Prop} {R : Type} {k : V → Loc → List Nat → Option R} {r : R} {o : Oper} {ρ : Operand → Value} {cf : Cfg} {strict : Bool} {e : Operand → V}

/-- What is yet to be made behind an operation. -/
def pendAfter (pend : Nat → Prop) (o : Oper) : Nat → Prop := fun s => pend s ∧ ¬ (isAlloc o = true ∧ o.dst = some s)

theorem pendAfter_eq {pend : Nat → Prop} {o : Oper} (h : isAlloc o = false) : pendAfter pend o = pend := by
  funext s; simp [pendAfter, h]

theorem args_rel {xs : List Operand} (hop : ∀ y ∈ xs, RV P E l (e y) (ρ y)) : ∀ (j : Nat) (x : V) (u : Value), (xs.map e)[j]? = some x → (xs.map ρ)[j]? = some u → RV P E l x u := rel_map hop

theorem noref_pend (hG : Good P A E l pend) {d : Nat} (hp : pend d) : ∀ s' t x, l s' = .rf t x → x.at d = false := by
  intro s' t x hl
  obtain ⟨hr, cs, _, hd⟩ := hG.pnd d hp
  have hps : ¬ pend s' := fun h => by
    obtain ⟨_, _, _, h2⟩ := hG.pnd s' h
    rw [hl] at h2; cases h2
  have h0 := hG.obj s' hps
  rw [hl] at h0
  cases h0 with
  | @rf _ _ g cur u h1 h2 h3 h4 h5 h6 =>
    cases hx : x.at d with
    | false => rfl
    | true =>
      cases h4 with
      | ptrDead hd' => have e := Nat.eq_of_beq_eq_true hx; subst e; rw [hd] at hd'; cases hd'
      | ptr hr' => have e := Nat.eq_of_beq_eq_true hx; subst e; rw [hr] at hr'; cases hr'
      | ownDead hd' => have e := Nat.eq_of_beq_eq_true hx; subst e; rw [hd] at hd'; cases hd'
      | ownNil _ hl' => have e := Nat.eq_of_beq_eq_true hx; subst e; rw [hd] at hl'; cases hl'
      | own hr' _ _ _ _ => have e := Nat.eq_of_beq_eq_true hx; subst e; rw [hr] at hr'; cases hr'
      | own0 hr' _ _ => have e := Nat.eq_of_beq_eq_true hx; subst e; rw [hr] at hr'; cases hr'
      | ownRf hl' => have e := Nat.eq_of_beq_eq_true hx; subst e; rw [hd] at hl'; cases hl'
      | tup _ _ => cases h5
      | ghDead hd' => have e := Nat.eq_of_beq_eq_true hx; subst e; rw [hd] at hd'; cases hd'
      | gh hr' _ => have e := Nat.eq_of_beq_eq_true hx; subst e; rw [hr] at hr'; cases hr'
      | c _ => cases hx
      | agg _ => cases hx
      | un => cases hx
      | und => cases hx

theorem call_run {c : Call} {f : FuncId} {fn : Func} (ho : o.op = .call c) {g : Operand} (hc : c.callee = .value g) {caps : List Value} (hg : ρ g = .func (.func f) #[] caps.toArray) (hf : P.funcs[f]? = some fn) (hb : fn.body ≠ none) (hn : (fn.name == "runtime.NumGoroutine") = false) :
    (execOp ρ o).run P E.w = .ok (.enter f (c.args.toList.map ρ ++ caps).toArray) E.w := by
  have hb' : fn.body.isNone = false := by cases h : fn.body <;> simp_all
  have e1 : (#[] : Array Value) ++ c.args.map ρ ++ caps.toArray = (c.args.toList.map ρ ++ caps).toArray := by
    apply Array.ext'; simp
  simp only [execOp, ho, resolve, hc, hg, Deferred.ofValue, Sem.run_bind, Sem.run_pure, Result.andThen_ok, invoke, callFunc, run_program, hf, hn, hb', Bool.false_eq_true, if_false]
  rw [e1]

theorem args_rel2 {xs : List Operand} {e : Operand → V} (h : ∀ y ∈ xs, RV P E l (e y) (ρ y)) : ∀ (j : Nat) (x : V) (u : Value), (xs.map e)[j]? = some x → (xs.map ρ)[j]? = some u → RV P E l x u := by
  intro j x u hx hu
  rw [List.getElem?_map] at hx hu
  cases hj : xs[j]? with
  | none => rw [hj] at hx; cases hx
  | some y =>
    rw [hj] at hx hu
    injection hx with hx; injection hu with hu
    subst hx hu
    exact h y (List.mem_of_getElem? hj)

/-- Behind a yield. -/
theorem good_yield (hG : Good P A E l pend) {lg : Log} (_ : l.log = some lg) {rest : List (List V)} {e : Ending} {w' : World} (hy : YPost A.jt E.Y E.Pr lg rest E.w e w') :
    ∃ E', E'.w = w' ∧ (Good P A E' ⟨l.fn, some ⟨lg.l, lg.go, Nat.succ lg.i, rest, !(lg.go lg.i)⟩⟩ pend ∧ E'.D = E.D) ∧ ∀ y v, RV P E l y v → RV P E' ⟨l.fn, some ⟨lg.l, lg.go, Nat.succ lg.i, rest, !(lg.go lg.i)⟩⟩ y v := by
  obtain ⟨_, Y', y1, y2, y3, hx, hj, hsame, hsz, hos, htp, hout⟩ := hy
  let E' : Env := { E with w := w', Y := Y' }
  let l' : Loc := ⟨l.fn, some ⟨lg.l, lg.go, Nat.succ lg.i, rest, !(lg.go lg.i)⟩⟩
  have hx' : Held E.w E.Pr E'.w E'.Pr := hx
  have hk : ∀ s, Keeps1 E E' l l' s := fun s => by
    by_cases hd : l s = .dead
    · exact .inl hd
    · exact .inr ⟨hd, rfl, rfl, .same rfl⟩
  refine ⟨E', rfl, ⟨⟨fun s hp => ?_, hG.pnd, hG.inj, hG.base, fun b k hp => ⟨Nat.lt_of_lt_of_le (hG.prot b k hp).1 hsz, (hG.prot b k hp).2⟩, hj, hG.pr0.trans hx', hG.prN, Nat.le_trans hG.size hsz, hos.trans hG.os, htp.trans hG.tape, hout.trans hG.output, hG.yok, fun s g hs hy => ?_, y3, fun r hr => ⟨?_, fun hy => ?_⟩⟩, rfl⟩, fun y v h => h.mono0 hx' hk⟩
  · exact (hG.obj s hp).keep hx' rfl rfl (fun g hg => hsame g (hG.lt hg) (hG.yown s g hg)) fun _ _ _ _ h => h.mono0 hx' hk
  · rcases y2 g hy with h | h
    · exact hG.yown s g hs h
    · have := hG.lt (s := s) hs; omega
  · exact (hsame r (Array.getElem?_eq_some_iff.1 (hG.dm r hr).1).1 (hG.dm r hr).2).trans (hG.dm r hr).1
  · rcases y2 r hy with h | h
    · exact (hG.dm r hr).2 h
    · have := (Array.getElem?_eq_some_iff.1 (hG.dm r hr).1).1; omega

theorem op_yield (hG : Good P A E l pend) {cf : Cfg} (hP : cf.P = P) {strict : Bool} {c : Call} (ho : o.op = .call c) {g : Operand} (hc : c.callee = .value g) {n : Nat} (hg : ρ g = .func (.yield n) #[] #[]) {e : Operand → V}
    (hargs : ∀ y ∈ c.args.toList, RV P E l (e y) (ρ y)) (h : yieldK cf.P strict n (c.args.toList.map e) l k = some r) : Sound P A E l pend ((execOp ρ o).run P E.w) k r := by
  unfold yieldK at h
  split at h
  · cases h
  rw [hP] at h
  obtain ⟨ys, l1, ss, E1, h1, hG1, hM, hyl, _, _, hy, _, _⟩ := marsh_sound hG (us := c.args.toList.map ρ) (by simp) (args_rel2 hargs) List.nodup_nil h
  cases ss with
  | cons s ss => cases h1
  | nil =>
    cases hlog : l1.log with
    | none => rw [hlog] at h1; cases h1
    | some lg =>
      rw [hlog] at h1
      dsimp only at h1
      obtain ⟨hb, h2⟩ := need_some h1
      simp only [Bool.and_eq_true, Bool.not_eq_true'] at hb
      have hln : lg.l = n := Nat.eq_of_beq_eq_true hb.1
      have hJ : A.jt.J E1.Y E1.Pr (some lg) E1.w := by rw [← hlog]; exact hG1.jf
      cases hrest : lg.rest with
      | nil => rw [hrest] at h2; cases h2
      | cons it rest =>
      rw [hrest] at h2
      dsimp only at h2
      obtain ⟨hit, h2⟩ := need_some h2
      have hit : ys = it := by simpa [eqV] using hit
      obtain ⟨fn, tmps, assign, body, hrun, hR⟩ := hG1.yok E1.Y E1.Pr lg E1.w it rest (c.args.toList.map ρ) hJ hb.2 hrest (by rw [← hyl, hit]) (fun i x u hx hu => by
        rw [← hit] at hx
        rcases hy i x u hx hu with ⟨c, rfl, hc⟩ | ⟨cs, vs, rfl, rfl, hc⟩ | ⟨i, off, s, _, hs, _⟩ | ⟨i, off, n, s, _, hs, _⟩
        · exact .c hc
        · exact .agg hc
        · simp at hs
        · simp at hs) (fun b k hp => (hG1.prot b k hp).1) hG1.ylt
      rw [hM.w, hln] at hrun
      have e1 : (#[] : Array Value) ++ c.args.map ρ = (c.args.toList.map ρ).toArray := by apply Array.ext'; simp
      have hrun' : (execOp ρ o).run P E.w = .ok (.round n fn tmps assign body) E.w := by
        simp only [execOp, ho, resolve, hc, hg, Deferred.ofValue, Sem.run_bind, Sem.run_pure, Result.andThen_ok, invoke]
        rw [e1]; exact hrun
      rw [hrun']
      refine ⟨_, _, _, h2, ?_⟩
      show RoundIn Fence.wide 0 P n fn tmps assign body E.w _
      rw [hM.w, hln] at hR
      refine hR.mono fun e w' he => ?_
      obtain ⟨E', e1, q1, q2⟩ := good_yield hG1 hlog (by rw [hM.w]; exact he)
      exact ⟨_, he.1, E', e1, ⟨q1.1, q1.2.trans hM.D⟩, .c (.v rfl), fun y v hy _ => q2 y v (hM.rv hy)⟩

theorem opK_sound (hG : Good P A E l pend) (hP : cf.P = P) (hcon : ∀ f args objs out, cf.call f args objs = some out → ConAt P cf.glob f args objs out) (hgl : GlobOk cf.glob E.w E.Pr)
    (hfn : ∀ f args objs out, cf.call f args objs = some out → ∃ fn, P.funcs[f]? = some fn ∧ fn.body ≠ none ∧ (fn.name == "runtime.NumGoroutine") = false)
    (hop : ∀ y ∈ o.op.operands, RV P E l (e y) (ρ y)) (hfv : ∀ f, ρ (.func f) = .func (.func f) #[] #[])
    (hal : ∀ t d, o.op = .alloc t → o.dst = some d → pend d ∧ A.pt d = t) (hnd : isAlloc o = false → ∀ d, o.dst = some d → ¬ pend d) (h : opK cf strict o e l k = some r) :
    Sound P A E l (pendAfter pend o) ((execOp ρ o).run P E.w) k r := by
  unfold opK at h
  split at h
  case h_1 x ho => rw [pendAfter_eq (by simp [isAlloc, ho])]; exact op_move hG (.inl ho) (hop x (by simp [ho, Op.operands])) h
  case h_2 x ho => rw [pendAfter_eq (by simp [isAlloc, ho])]; exact op_move hG (.inr ho) (hop x (by simp [ho, Op.operands])) h
  case h_3 c a b ho =>
    rw [pendAfter_eq (by simp [isAlloc, ho])]
    unfold pickK at h
    split at h
    · rename_i q hq
      exact op_pick hG ho (hop c (by simp [ho, Op.operands])) (hop a (by simp [ho, Op.operands])) (hop b (by simp [ho, Op.operands])) hq h
    · cases h
  case h_4 t ho =>
    split at h
    case h_2 => cases h
    case h_1 d hd =>
      obtain ⟨hp, ht⟩ := hal t d ho hd
      have h1 := op_alloc (ρ := ρ) hG ho hp ht (noref_pend hG hp) h
      have e1 : pendAfter pend o = fun s => pend s ∧ s ≠ d := by
        funext s
        simp only [pendAfter, isAlloc, ho, hd]
        simp only [true_and, Option.some.injEq]
        rw [eq_comm (a := d)]
      rw [e1]; exact h1
  case h_5 t x ho =>
    rw [pendAfter_eq (by simp [isAlloc, ho])]
    split at h
    case h_2 => cases h
    case h_1 d hd => rw [hP] at h; exact op_box hG ho (hnd (by simp [isAlloc, ho]) d hd) (hop x (by simp [ho, Op.operands])) rfl h
  case h_6 t parts ho =>
    rw [pendAfter_eq (by simp [isAlloc, ho])]
    rw [hP] at h
    exact op_build hG ho (fun p hp => hop p.2 (by simp [ho, Op.operands]; exact ⟨p.1, by simpa using hp⟩)) h
  case h_7 t n parts ho =>
    rw [pendAfter_eq (by simp [isAlloc, ho])]
    split at h
    case h_2 => cases h
    case h_1 d hd =>
      rw [hP] at h
      exact op_buildSlice hG ho (hnd (by simp [isAlloc, ho]) d hd) (fun p hp => hop p.2 (by simp [ho, Op.operands]; exact ⟨p.1, by simpa using hp⟩)) h
  case h_8 t a ho => rw [pendAfter_eq (by simp [isAlloc, ho])]; rw [hP] at h; exact op_load hG ho (hop a (by simp [ho, Op.operands])) rfl h
  case h_9 t a x ho => rw [pendAfter_eq (by simp [isAlloc, ho])]; rw [hP] at h; exact op_store hG ho (hop a (by simp [ho, Op.operands])) (hop x (by simp [ho, Op.operands])) rfl rfl h
  case h_10 x ho => rw [pendAfter_eq (by simp [isAlloc, ho])]; exact op_nil hG ho (hop x (by simp [ho, Op.operands])) rfl h
  case h_11 op t x y yt ho => rw [pendAfter_eq (by simp [isAlloc, ho])]; rw [hP] at h; exact op_bin hG ho (hop x (by simp [ho, Op.operands])) (hop y (by simp [ho, Op.operands])) h
  case h_12 op t x ho => rw [pendAfter_eq (by simp [isAlloc, ho])]; exact op_un hG ho (hop x (by simp [ho, Op.operands])) h
  case h_13 src dst x ho => rw [pendAfter_eq (by simp [isAlloc, ho])]; rw [hP] at h; exact op_conv hG ho (hop x (by simp [ho, Op.operands])) h
  case h_14 fn first cap ho =>
    rw [pendAfter_eq (by simp [isAlloc, ho])]
    split at h
    case h_2 => cases h
    case h_1 f hf =>
      obtain ⟨h1, h2⟩ := need_some h
      rw [hP] at h2
      exact op_makeFunc hG ho hf (fun y hy => hop y (by simp [ho, Op.operands]; exact .inr (by simpa using hy))) h1 h2
  case h_15 t n c ho =>
    rw [pendAfter_eq (by simp [isAlloc, ho])]
    split at h
    case h_2 => cases h
    case h_1 d hd => rw [hP] at h; exact op_makeSlice hG ho (hnd (by simp [isAlloc, ho]) d hd) (hop n (by simp [ho, Op.operands])) (hop c (by simp [ho, Op.operands])) rfl rfl h
  case h_16 t x lo hi mx ho =>
    rw [pendAfter_eq (by simp [isAlloc, ho])]
    split at h
    · cases h
    · rw [hP] at h
      exact op_slice hG ho (hop x (by simp [ho, Op.operands])) rfl (fun y hy => hop y (by simp [ho, Op.operands, hy])) (fun y hy => hop y (by simp [ho, Op.operands, hy])) h
  case h_17 T x f ho => rw [pendAfter_eq (by simp [isAlloc, ho])]; rw [hP] at h; exact op_fieldAddr hG ho (hop x (by simp [ho, Op.operands])) rfl h
  case h_18 T x f ho => rw [pendAfter_eq (by simp [isAlloc, ho])]; rw [hP] at h; exact op_field hG ho (hop x (by simp [ho, Op.operands])) rfl h
  case h_19 T x i ho => rw [pendAfter_eq (by simp [isAlloc, ho])]; rw [hP] at h; exact op_indexAddr hG ho (hop x (by simp [ho, Op.operands])) (hop i (by simp [ho, Op.operands])) rfl rfl h
  case h_20 T x i ho => rw [pendAfter_eq (by simp [isAlloc, ho])]; rw [hP] at h; exact op_index hG ho (hop x (by simp [ho, Op.operands])) (hop i (by simp [ho, Op.operands])) rfl rfl h
  case h_21 x i ho => rw [pendAfter_eq (by simp [isAlloc, ho])]; exact op_extract hG ho (hop x (by simp [ho, Op.operands])) rfl h
  case h_22 c ho =>
    rw [pendAfter_eq (by simp [isAlloc, ho])]
    have hargs : ∀ y ∈ c.args.toList, RV P E l (e y) (ρ y) := fun y hy => hop y (by simp [ho, Op.operands, Call.operands]; exact .inr (by simpa using hy))
    have hna : isAlloc o = false := by simp [isAlloc, ho]
    split at h
    case h_1 hc =>
      split at h
      case h_2 => cases h
      case h_1 x T ha hT =>
        rw [hP] at h
        exact op_len hG ho hc (by apply Array.ext'; simpa using ha) (by apply Array.ext'; simpa using hT) (hargs x (by simp [ha])) rfl h
    case h_2 hc =>
      split at h
      case h_2 => cases h
      case h_1 d s x T T' hd ha hT =>
        cases hb : Nat.beq T T' with
        | false =>
          rw [hb] at h
          rw [hP] at h
          exact op_appMake hG ho hc (by apply Array.ext'; simpa using ha) (by apply Array.ext'; simpa using hT) (hnd hna d hd) (hargs s (by simp [ha])) (hargs x (by simp [ha])) rfl rfl h
        | true =>
          rw [hb] at h
          have := Nat.eq_of_beq_eq_true hb
          subst this
          exact op_append hG hP ho hc (by apply Array.ext'; simpa using ha) (by apply Array.ext'; simpa using hT) (hnd hna d hd) (hargs s (by simp [ha])) (hargs x (by simp [ha])) rfl rfl h
    case h_3 hc =>
      split at h
      case h_2 => cases h
      case h_1 x T ha hT =>
        rw [hP] at h
        exact op_cap hG ho hc (by apply Array.ext'; simpa using ha) (by apply Array.ext'; simpa using hT) (hargs x (by simp [ha])) rfl h
    case h_4 hc => exact op_max (lt := false) hG ho hc hargs h
    case h_5 hc => exact op_max (lt := true) hG ho hc hargs h
    case h_6 => cases h
    case h_7 => cases h
    case h_8 f hc =>
      have hcallee : ∀ g, c.callee = .value g → RV P E l (e g) (ρ g) := fun g hg => hop g (by simp [ho, Op.operands, Call.operands, hg])
      have hgo : ∀ (hds : List Nat) (xo : List (Option TypeId)) (f : FuncId) (caps : List C) (cvs : List Value) (g : Operand), c.callee = .value g → ρ g = .func (.func f) #[] cvs.toArray → RCs E.w E.Pr caps cvs →
          callK cf strict hds xo f (c.args.toList.map e ++ caps.map .c) o.type o.dst l k = some r → Sound P A E l pend ((execOp ρ o).run P E.w) k r := by
        intro hds xo f caps cvs g hg hρ hcaps h
        have hrel : ∀ (j : Nat) (x : V) (u : Value), (c.args.toList.map e ++ caps.map .c)[j]? = some x → (c.args.toList.map ρ ++ cvs)[j]? = some u → RV P E l x u := by
          intro j x u hx hu
          rw [List.getElem?_append] at hx hu
          simp only [List.length_map] at hx hu
          split at hx
          · rename_i hlt
            rw [if_pos hlt] at hu
            exact args_rel hargs j x u hx hu
          · rename_i hge
            rw [if_neg hge] at hu
            rw [List.getElem?_map] at hx
            cases hcj : caps[j - c.args.toList.length]? with
            | none => rw [hcj] at hx; cases hx
            | some cc =>
              rw [hcj] at hx; injection hx with hx; subst hx
              exact .c (hcaps.2 _ cc u hcj hu)
        obtain ⟨x, l', ks, hk, hC⟩ := callK_sound hG hP hcon hgl (us := c.args.toList.map ρ ++ cvs) (by simp [hcaps.len]) hrel (fun d hd => hnd hna d hd) h
        have hfun : ∃ fn, P.funcs[f]? = some fn ∧ fn.body ≠ none ∧ (fn.name == "runtime.NumGoroutine") = false := by
          unfold callK at h
          simp only [hP] at h
          obtain ⟨ys, l1, ss, E1, h1, _⟩ := marsh_sound hG (us := c.args.toList.map ρ ++ cvs) (by simp [hcaps.len]) hrel List.nodup_nil h
          obtain ⟨_, h2⟩ := need_some h1
          rw [Option.bind_eq_some_iff] at h2
          obtain ⟨out, hcall, _⟩ := h2
          exact hfn _ _ _ _ hcall
        obtain ⟨fn, h1, h2, h3⟩ := hfun
        rw [call_run ho hg hρ h1 h2 h3]
        exact ⟨x, l', ks, hk, hC⟩
      split at h
      case h_1 f' =>
        exact hgo _ _ f' [] [] _ hc (by rw [hfv]) .nil (by simpa using h)
      case h_2 =>
        split at h
        case h_2 => cases h
        case h_1 c' hx =>
          have h1 := hcallee _ hc
          rw [hx] at h1
          generalize hu : ρ f = u at h1
          cases h1 with | c hcc =>
          unfold asYF at h
          split at h
          · rename_i f' caps
            cases hcc with
            | @fn _ _ cvs q1 q2 => exact hgo _ _ f' caps cvs _ hc hu ⟨q1, q2⟩ h
          · rename_i n go xs
            cases hcc
            exact op_yield hG hP ho hc hu hargs h
          · cases h
  case h_23 => cases h

end
end Go.PM
/- The pure machine: what an operation hands on does not depend on what is done with it. -/
namespace Go.PM
open Go

variable {P : Program} {R : Type} {r : R}

theorem ldC_nat {t : TypeId} {cs : List C} {k : V → Option R} (h : ldC P t cs k = some r) : ∃ v, (∀ {S : Type} (k' : V → Option S), ldC P t cs k' = k' v) ∧ k v = some r := by
  unfold ldC at h
  cases hi : P.info? t with
  | none => rw [hi] at h; cases h
  | some i =>
    rw [hi] at h
    cases ha : aggB P t with
    | true =>
      rw [ha] at h
      cases hl : leaves P 20 t with
      | none =>
        rw [hl] at h
        obtain ⟨h1, h2⟩ := need_nat h
        exact ⟨_, fun k' => by simp only [ldC, hi, ha, hl, h1], h2⟩
      | some ls =>
        rw [hl] at h
        obtain ⟨h1, h2⟩ := need_nat h
        obtain ⟨cs', h3, h4⟩ := getLfs_nat h2
        exact ⟨_, fun k' => by simp only [ldC, hi, ha, hl, h1, h3], h4⟩
    | false =>
      rw [ha] at h
      cases hl : leaves P 20 t with
      | none => rw [hl] at h; cases h
      | some ls =>
        rw [hl] at h
        match ls, hl, h with
        | [], _, h => cases h
        | _ :: _ :: _, _, h => cases h
        | [f], hl, h =>
          cases cs with
          | nil => cases h
          | cons c rest =>
            obtain ⟨c', h1, h2⟩ := getLf_nat (show getLf f c (fun c' => k (.c c')) = some r from h)
            exact ⟨_, fun k' => by simp only [ldC, hi, ha, hl, unc, h1], h2⟩

theorem pur_nat {strict : Bool} {x : V} {l : Loc} {k : List C → Loc → Option R} (h : pur P strict x l k = some r) : ∃ cs l', (∀ {S : Type} (k' : List C → Loc → Option S), pur P strict x l k' = k' cs l') ∧ k cs l' = some r := by
  cases x with
  | c c => exact ⟨_, _, fun k' => rfl, h⟩
  | agg cs => exact ⟨_, _, fun k' => rfl, h⟩
  | own s off n =>
    simp only [pur] at h
    split at h
    · rename_i t fz cs ho
      obtain ⟨h1, h2⟩ := need_nat h
      exact ⟨_, _, fun k' => by simp only [pur, ho, h1], h2⟩
    · cases h
  | ptr s off =>
    simp only [pur] at h
    split at h
    · rename_i t fz cs ho
      exact ⟨_, _, fun k' => by simp only [pur, ho], h⟩
    · cases h
  | _ => cases h

theorem purL_nat {strict : Bool} : ∀ {xs : List V} {l : Loc} {k : List (List C) → Loc → Option R} (_ : purL P strict xs l k = some r), ∃ ps l', (∀ {S : Type} (k' : List (List C) → Loc → Option S), purL P strict xs l k' = k' ps l') ∧ k ps l' = some r
  | [], l, k, h => ⟨[], l, fun k' => rfl, h⟩
  | x :: xs, l, k, h => by
    obtain ⟨cs, l1, h1, h2⟩ := pur_nat (show pur P strict x l (fun cs l1 => purL P strict xs l1 fun ps l2 => k (cs :: ps) l2) = some r from h)
    obtain ⟨ps, l2, h3, h4⟩ := purL_nat h2
    exact ⟨cs :: ps, l2, fun k' => by show pur P strict x l _ = _; rw [h1, h3], h4⟩

theorem fillK_nat {place : Nat → Option (Nat × Nat)} : ∀ {is : List Nat} {ps : List (List C)} {cs : List C} {k : List C → Option R} (_ : fillK place is ps cs k = some r), ∃ cs', (∀ {S : Type} (k' : List C → Option S), fillK place is ps cs k' = k' cs') ∧ k cs' = some r
  | [], ps, cs, k, h => ⟨cs, fun k' => by simp [fillK], by simpa [fillK] using h⟩
  | i :: is, [], cs, k, h => ⟨cs, fun k' => by simp [fillK], by simpa [fillK] using h⟩
  | i :: is, p :: ps, cs, k, h => by
    simp only [fillK] at h
    split at h
    · cases h
    · rename_i off sz hp
      obtain ⟨h1, h2⟩ := need_nat h
      obtain ⟨cs', h3, h4⟩ := fillK_nat h2
      exact ⟨cs', fun k' => by simp only [fillK, hp, h1, h3], h4⟩

theorem marsh_nat {strict : Bool} : ∀ {hd : List Nat} {xs : List V} {l : Loc} {ss : List Nat} {k : List V → Loc → List Nat → Option R} (_ : marsh P strict hd xs l ss k = some r),
    ∃ ys l' ss', (∀ {S : Type} (k' : List V → Loc → List Nat → Option S), marsh P strict hd xs l ss k' = k' ys l' ss') ∧ k ys l' ss' = some r
  | hd, [], l, ss, k, h => ⟨[], l, ss, fun k' => by simp [marsh], by simpa [marsh] using h⟩
  | hd, x :: xs, l, ss, k, h => by
    unfold marsh at h
    cases x with
    | c c =>
      obtain ⟨ys, l', ss', h1, h2⟩ := marsh_nat h
      exact ⟨_, _, _, fun k' => by simp only [marsh, h1], h2⟩
    | agg cs =>
      obtain ⟨ys, l', ss', h1, h2⟩ := marsh_nat h
      exact ⟨_, _, _, fun k' => by simp only [marsh, h1], h2⟩
    | own s off n =>
      simp only at h
      cases hh : hand1 strict hd with
      | true =>
        rw [hh] at h
        simp only at h
        split at h
        · rename_i i hi
          obtain ⟨ys, l', ss', h3, h4⟩ := marsh_nat h
          exact ⟨_, _, _, fun k' => by simp only [marsh, hh, hi, h3], h4⟩
        · rename_i hi
          obtain ⟨ys, l', ss', h3, h4⟩ := marsh_nat h
          exact ⟨_, _, _, fun k' => by simp only [marsh, hh, hi, h3], h4⟩
      | false =>
        rw [hh] at h
        simp only at h
        obtain ⟨cs, l1, h1, h2⟩ := pur_nat h
        split at h2
        · obtain ⟨ys, l', ss', h3, h4⟩ := marsh_nat h2
          exact ⟨_, _, _, fun k' => by simp only [marsh, hh, h1, h3], h4⟩
        · cases h2
    | ptr s off =>
      simp only at h
      cases strict with
      | true => cases h
      | false =>
        simp only at h
        split at h
        · rename_i i hi
          obtain ⟨ys, l', ss', h3, h4⟩ := marsh_nat h
          exact ⟨_, _, _, fun k' => by simp only [marsh, hi, h3], h4⟩
        · rename_i hi
          obtain ⟨ys, l', ss', h3, h4⟩ := marsh_nat h
          exact ⟨_, _, _, fun k' => by simp only [marsh, hi, h3], h4⟩
    | _ => cases h

theorem backK_nat {fb : Bool} : ∀ {ss : List Nat} {os : List Obj} {l : Loc} {k : List Obj → Loc → Option R} (_ : backK P fb ss os l k = some r),
    ∃ rest l', (∀ {S : Type} (k' : List Obj → Loc → Option S), backK P fb ss os l k' = k' rest l') ∧ k rest l' = some r
  | [], os, l, k, h => ⟨os, l, fun k' => rfl, h⟩
  | s :: ss, os, l, k, h => by
    unfold backK at h
    split at h
    case h_3 => cases h
    case h_2 t fz cs hl =>
      obtain ⟨o, os', rfl, h1⟩ := uncO_eq h
      cases fb with
      | false =>
        obtain ⟨cs', rfl, h2⟩ := rS_eq h1
        obtain ⟨h3, h4⟩ := need_nat h2
        obtain ⟨rest, l', h7, h8⟩ := backK_nat h4
        exact ⟨rest, l', fun k' => by simp only [backK, hl, uncO, rS_self, h7, h3], h8⟩
      | true =>
        obtain ⟨fz', cs', rfl, hle, h2⟩ := rF_eq h1
        obtain ⟨h3, h4⟩ := need_nat h2
        obtain ⟨rest, l', h7, h8⟩ := backK_nat h4
        exact ⟨rest, l', fun k' => by simp only [backK, hl, uncO, rF_self hle, h7, h3], h8⟩
    case h_1 t fz cs hl =>
      obtain ⟨o, os', rfl, h1⟩ := uncO_eq h
      obtain ⟨cs', rfl, h2⟩ := rO_eq h1
      split at h2
      · rename_i ls hls
        obtain ⟨h3, h4⟩ := need_nat h2
        obtain ⟨cs2, h5, h6⟩ := getLfs_nat h4
        obtain ⟨rest, l', h7, h8⟩ := backK_nat h6
        exact ⟨rest, l', fun k' => by simp only [backK, hl, uncO, rO, hls, h3, h5, h7, Nat.beq_refl, Bool.and_self, need, cond_true] <;> simp only [← need.eq_1, h3], h8⟩
      · rename_i hls
        obtain ⟨h3, h4⟩ := need_nat h2
        obtain ⟨rest, l', h7, h8⟩ := backK_nat h4
        exact ⟨rest, l', fun k' => by simp only [backK, hl, uncO, rO, hls, h7, Nat.beq_refl, Bool.and_self, need, cond_true] <;> simp only [← need.eq_1, h3], h8⟩

theorem foldMax_nat {lt : Bool} : ∀ {xs : List V} {kd : IntKind} {a : Int} {k : V → Option R} (_ : foldMax lt xs kd a k = some r), ∃ v, (∀ {S : Type} (k' : V → Option S), foldMax lt xs kd a k' = k' v) ∧ k v = some r
  | [], kd, a, k, h => ⟨_, fun k' => rfl, h⟩
  | x :: xs, kd, a, k, h => by
    match x, h with
    | .c (.v (.int kd' b)), h =>
      simp only [foldMax] at h
      cases hk : decide (kd' = kd) with
      | false => rw [hk] at h; cases h
      | true =>
        rw [hk] at h
        obtain ⟨v, h1, h2⟩ := foldMax_nat h
        exact ⟨v, fun k' => by simp only [foldMax, hk, cond_true, h1], h2⟩

theorem bound_nat {x : Option V} {d y : Nat} {k : Nat → Option R} (h : bound x d y k = some r) : ∃ n, (∀ {S : Type} (k' : Nat → Option S), bound x d y k' = k' n) ∧ k n = some r := by
  unfold bound at h
  split at h
  · exact ⟨d, fun k' => rfl, h⟩
  · split at h
    · obtain ⟨h1, h2⟩ := need_nat h
      exact ⟨_, fun k' => by simp only [bound, h1], h2⟩
    · cases h
  · cases h

theorem newsK_nat {e : TypeId} {x : V} {l : Loc} {k : Nat → List C → Option R} (h : newsK P e x l k = some r) : ∃ m cs, (∀ {S : Type} (k' : Nat → List C → Option S), newsK P e x l k' = k' m cs) ∧ k m cs = some r := by
  unfold newsK at h
  split at h
  · obtain ⟨m, cs, h1, h2⟩ := asSl_nat h
    obtain ⟨h3, h4⟩ := need_nat h2
    exact ⟨m, cs, fun k' => by simp only [newsK, h1, h3], h4⟩
  · split at h
    · rename_i ho
      obtain ⟨h3, h4⟩ := need_nat h
      exact ⟨_, _, fun k' => by simp only [newsK, ho, h3], h4⟩
    · cases h
  · cases h

theorem binInt_nat {op : BinOp} {kd : IntKind} {a b : Int} {k : V → Option R} (h : binInt op kd a b k = some r) : ∃ v, (∀ {S : Type} (k' : V → Option S), binInt op kd a b k' = k' v) ∧ k v = some r := by
  cases op <;> simp only [binInt] at h ⊢ <;> first
    | (cases h; done)
    | exact ⟨_, fun k' => rfl, h⟩
    | (obtain ⟨h1, h2⟩ := need_nat h; exact ⟨_, fun k' => h1 _, h2⟩)
theorem shInt_nat {op : BinOp} {kd : IntKind} {a b : Int} {k : V → Option R} (h : shInt op kd a b k = some r) : ∃ v, (∀ {S : Type} (k' : V → Option S), shInt op kd a b k' = k' v) ∧ k v = some r := by
  cases op <;> simp only [shInt] at h ⊢ <;> first
    | (cases h; done)
    | (obtain ⟨h1, h2⟩ := need_nat h; exact ⟨_, fun k' => h1 _, h2⟩)
theorem binStr_nat {op : BinOp} {a b : ByteArray} {k : V → Option R} (h : binStr op a b k = some r) : ∃ v, (∀ {S : Type} (k' : V → Option S), binStr op a b k' = k' v) ∧ k v = some r := by
  cases op <;> simp only [binStr] at h ⊢ <;> first
    | (cases h; done)
    | exact ⟨_, fun k' => rfl, h⟩
    | (obtain ⟨h1, h2⟩ := need_nat h; exact ⟨_, fun k' => h1 _, h2⟩)

theorem binV_nat {op : BinOp} {t : TypeId} {x y : V} {k : V → Option R} (h : binV P op t x y k = some r) : ∃ v, (∀ {S : Type} (k' : V → Option S), binV P op t x y k' = k' v) ∧ k v = some r := by
  unfold binV at h
  split at h
  · split at h
    · obtain ⟨v, h1, h2⟩ := shInt_nat h; exact ⟨v, fun k' => by simp only [binV, h1], h2⟩
    · obtain ⟨v, h1, h2⟩ := shInt_nat h; exact ⟨v, fun k' => by simp only [binV, h1], h2⟩
    · rename_i n1 n2
      split at h
      · rename_i hk
        obtain ⟨v, h1, h2⟩ := binInt_nat h
        refine ⟨v, fun k' => ?_, h2⟩
        cases op <;> first
          | exact absurd rfl n1
          | exact absurd rfl n2
          | (simp only [binV, if_pos hk]; exact h1 k')
      · cases h
  · obtain ⟨v, h1, h2⟩ := binStr_nat h; exact ⟨v, fun k' => by simp only [binV, h1], h2⟩
  · split at h
    · rename_i hu; exact ⟨_, fun k' => by simp only [binV, hu], h⟩
    · rename_i hu; exact ⟨_, fun k' => by simp only [binV, hu], h⟩
    · cases h
  · split at h
    · rename_i b h1 h2 h3
      split at h
      · exact ⟨_, fun k' => by simp only [binV, h1, h2, h3], h⟩
      · exact ⟨_, fun k' => by simp only [binV, h1, h2, h3], h⟩
      · cases h
    · cases h
  · cases h

theorem unV_nat {op : UnOp} {x : V} {k : V → Option R} (h : unV op x k = some r) : ∃ v, (∀ {S : Type} (k' : V → Option S), unV op x k' = k' v) ∧ k v = some r := by
  unfold unV at h
  split at h
  · exact ⟨_, fun k' => rfl, h⟩
  · exact ⟨_, fun k' => rfl, h⟩
  · cases h

theorem convV_nat {src dst : TypeId} {x : V} {k : V → Option R} (h : convV P src dst x k = some r) : ∃ v, (∀ {S : Type} (k' : V → Option S), convV P src dst x k' = k' v) ∧ k v = some r := by
  unfold convV at h
  split at h
  · rename_i h1 h2; exact ⟨_, fun k' => by simp only [convV, h1, h2], h⟩
  · rename_i h1 h2; exact ⟨_, fun k' => by simp only [convV, h1, h2], h⟩
  · cases h

end Go.PM
/- The pure machine: what an operation hands on, continued. -/
namespace Go.PM
open Go

variable {P : Program} {R : Type} {r : R}

/-- What is handed on is one thing. -/
def Nat3 {R : Type} (F : {S : Type} → (V → Loc → List Nat → Option S) → Option S) (k : V → Loc → List Nat → Option R) (r : R) : Prop :=
  ∃ x l ks, (∀ {S : Type} (k' : V → Loc → List Nat → Option S), F k' = k' x l ks) ∧ k x l ks = some r

section
variable {l : Loc} {k : V → Loc → List Nat → Option R}

theorem pickK_nat {c a b : V} (h : pickK l k c a b = some r) : Nat3 (fun k' => pickK l k' c a b) k r := by
  unfold pickK at h
  split at h
  · exact ⟨_, _, _, fun k' => rfl, h⟩
  · cases h
theorem boxK_nat {strict own : Bool} {t : TypeId} {d : Nat} {x : V} (h : boxK P l k strict own t d x = some r) : Nat3 (fun k' => boxK P l k' strict own t d x) k r := by
  unfold boxK at h
  split at h
  · obtain ⟨cs, l', h1, h2⟩ := pur_nat h
    obtain ⟨h3, h4⟩ := need_nat h2
    exact ⟨_, _, _, fun k' => by simp only [boxK, h1, h3], h4⟩
  · cases h
  · obtain ⟨cs, l', h1, h2⟩ := pur_nat h
    exact ⟨_, _, _, fun k' => by simp only [boxK, h1], h2⟩
theorem buildK_nat {strict : Bool} {t : TypeId} {is : List Nat} {xs : List V} (h : buildK P l k strict t is xs = some r) : Nat3 (fun k' => buildK P l k' strict t is xs) k r := by
  unfold buildK at h
  split at h
  · rename_i hT hz
    obtain ⟨h0, h⟩ := need_nat h
    obtain ⟨ps, l', h1, h2⟩ := purL_nat h
    obtain ⟨cs, h3, h4⟩ := fillK_nat h2
    exact ⟨_, _, _, fun k' => by simp only [buildK, hT, hz, h0, h1, h3], h4⟩
  · rename_i hT hz
    obtain ⟨h0, h⟩ := need_nat h
    obtain ⟨ps, l', h1, h2⟩ := purL_nat h
    obtain ⟨cs, h3, h4⟩ := fillK_nat h2
    exact ⟨_, _, _, fun k' => by simp only [buildK, hT, hz, h0, h1, h3], h4⟩
  · cases h
theorem buildSliceK_nat {strict own : Bool} {t : TypeId} {n d : Nat} {is : List Nat} {xs : List V} (h : buildSliceK P l k strict own t n d is xs = some r) : Nat3 (fun k' => buildSliceK P l k' strict own t n d is xs) k r := by
  unfold buildSliceK at h
  split at h
  · rename_i hT
    split at h
    · rename_i hz
      obtain ⟨ps, l', h1, h2⟩ := purL_nat h
      obtain ⟨cs, h3, h4⟩ := fillK_nat h2
      obtain ⟨h5, h6⟩ := need_nat h4
      split at h6
      · exact ⟨_, _, _, fun k' => by simp only [buildSliceK, hT, hz, h1, h3, h5], h6⟩
      · cases h6
      · exact ⟨_, _, _, fun k' => by simp only [buildSliceK, hT, hz, h1, h3, h5], h6⟩
    · cases h
  · cases h
theorem loadK_nat {t : TypeId} {a : V} (h : loadK P l k t a = some r) : Nat3 (fun k' => loadK P l k' t a) k r := by
  unfold loadK at h
  split at h
  · obtain ⟨cs, h1, h2⟩ := asP_nat h
    obtain ⟨v, h3, h4⟩ := ldC_nat h2
    exact ⟨_, _, _, fun k' => by simp only [loadK, h1, h3], h4⟩
  · split at h
    · rename_i hl
      obtain ⟨v, h3, h4⟩ := ldC_nat h
      exact ⟨_, _, _, fun k' => by simp only [loadK, hl, h3], h4⟩
    · rename_i hl
      obtain ⟨v, h3, h4⟩ := ldC_nat h
      exact ⟨_, _, _, fun k' => by simp only [loadK, hl, h3], h4⟩
    · rename_i hl
      obtain ⟨h3, h4⟩ := need_nat h
      exact ⟨_, _, _, fun k' => by simp only [loadK, hl, h3], h4⟩
    · cases h
  · cases h
theorem storeRf_nat {t : TypeId} {s off : Nat} {t' : TypeId} {x : V} (h : storeRf P l k t s off t' x = some r) : Nat3 (fun k' => storeRf P l k' t s off t' x) k r := by
  unfold storeRf at h
  split at h
  · obtain ⟨h3, h4⟩ := need_nat h
    exact ⟨_, _, _, fun k' => by simp only [storeRf, h3], h4⟩
  · obtain ⟨h3, h4⟩ := need_nat h
    exact ⟨_, _, _, fun k' => by simp only [storeRf, h3], h4⟩
  · cases h
theorem storeOb_nat {strict : Bool} {t : TypeId} {s off : Nat} {x : V} (h : storeOb P l k strict t s off x = some r) : Nat3 (fun k' => storeOb P l k' strict t s off x) k r := by
  unfold storeOb at h
  obtain ⟨cs, l', h1, h2⟩ := pur_nat h
  split at h2
  · rename_i hl
    obtain ⟨h3, h4⟩ := need_nat h2
    exact ⟨_, _, _, fun k' => by simp only [storeOb, h1, hl, h3], h4⟩
  · rename_i hl
    obtain ⟨h3, h4⟩ := need_nat h2
    exact ⟨_, _, _, fun k' => by simp only [storeOb, h1, hl, h3], h4⟩
  · cases h2
theorem storeK_nat {strict : Bool} {t : TypeId} {a x : V} (h : storeK P l k strict t a x = some r) : Nat3 (fun k' => storeK P l k' strict t a x) k r := by
  unfold storeK at h
  split at h
  · split at h
    · rename_i t' fz cs hl
      cases hb : (isOwn x && Nat.beq cs.length 1 && Nat.beq fz 0) with
      | true =>
        rw [hb] at h
        obtain ⟨y, l', ks, h1, h2⟩ := storeRf_nat h
        exact ⟨y, l', ks, fun k' => by simp only [storeK, hl, hb, cond_true]; exact h1 k', h2⟩
      | false =>
        rw [hb] at h
        obtain ⟨y, l', ks, h1, h2⟩ := storeOb_nat h
        exact ⟨y, l', ks, fun k' => by simp only [storeK, hl, hb, cond_false]; exact h1 k', h2⟩
    · rename_i hl
      obtain ⟨y, l', ks, h1, h2⟩ := storeOb_nat h
      exact ⟨y, l', ks, fun k' => by simp only [storeK, hl]; exact h1 k', h2⟩
    · rename_i hl
      obtain ⟨y, l', ks, h1, h2⟩ := storeRf_nat h
      exact ⟨y, l', ks, fun k' => by simp only [storeK, hl]; exact h1 k', h2⟩
    · cases h
  · cases h
theorem nilK_nat {x : V} (h : nilK l k x = some r) : Nat3 (fun k' => nilK l k' x) k r := by
  unfold nilK at h
  split at h
  · obtain ⟨h3, h4⟩ := need_nat h
    exact ⟨_, _, _, fun k' => by simp only [nilK, h3], h4⟩
  · split at h
    · exact ⟨_, _, _, fun k' => rfl, h⟩
    · exact ⟨_, _, _, fun k' => rfl, h⟩
    · cases h
  · cases h
theorem makeSliceK_nat {t : TypeId} {d : Nat} {n c : V} (h : makeSliceK P l k t d n c = some r) : Nat3 (fun k' => makeSliceK P l k' t d n c) k r := by
  unfold makeSliceK at h
  split at h
  · rename_i h1 h2 h3
    split at h
    · rename_i h4 h5
      obtain ⟨h6, h7⟩ := need_nat h
      exact ⟨_, _, _, fun k' => by simp only [makeSliceK, h1, h2, h3, h4, h5, h6], h7⟩
    · cases h
  · cases h
theorem sliceC_nat {sz : Nat} {c : C} {lo hi : Option V} {k : C → Option R} (h : sliceC sz lo hi c k = some r) : ∃ c', (∀ {S : Type} (k' : C → Option S), sliceC sz lo hi c k' = k' c') ∧ k c' = some r := by
  unfold sliceC at h
  split at h
  · obtain ⟨a, h3, h4⟩ := bound_nat h
    obtain ⟨b, h5, h6⟩ := bound_nat h4
    exact ⟨_, fun k' => by simp only [sliceC, h3, h5], h6⟩
  · obtain ⟨a, h3, h4⟩ := bound_nat h
    obtain ⟨b, h5, h6⟩ := bound_nat h4
    exact ⟨_, fun k' => by simp only [sliceC, h3, h5], h6⟩
  · cases h
theorem sliceK_nat {t : TypeId} {x : V} {lo hi : Option V} (h : sliceK P l k t x lo hi = some r) : Nat3 (fun k' => sliceK P l k' t x lo hi) k r := by
  unfold sliceK at h
  split at h
  · rename_i hT
    split at h
    · obtain ⟨s, h1, h2⟩ := asS_nat h
      obtain ⟨a, h3, h4⟩ := bound_nat h2
      obtain ⟨b, h5, h6⟩ := bound_nat h4
      exact ⟨_, _, _, fun k' => by simp only [sliceK, hT, h1, h3, h5], h6⟩
    · cases h
  · rename_i hT
    split at h
    · rename_i hi'
      split at h
      · obtain ⟨c', h1, h2⟩ := sliceC_nat h
        exact ⟨_, _, _, fun k' => by simp only [sliceK, hT, hi', h1], h2⟩
      · split at h
        · rename_i hl
          obtain ⟨h1, h2⟩ := need_nat h
          obtain ⟨a, h3, h4⟩ := bound_nat h2
          obtain ⟨b, h5, h6⟩ := bound_nat h4
          exact ⟨_, _, _, fun k' => by simp only [sliceK, hT, hi', hl, h1, h3, h5], h6⟩
        · cases h
      · cases h
    · cases h
  · cases h
theorem fieldAddrK_nat {T : TypeId} {f : Nat} {x : V} (h : fieldAddrK P l k T f x = some r) : Nat3 (fun k' => fieldAddrK P l k' T f x) k r := by
  unfold fieldAddrK at h
  split at h
  · rename_i hf
    obtain ⟨h1, h2⟩ := need_nat h
    split at h2
    · obtain ⟨h3, h4⟩ := need_nat h2
      exact ⟨_, _, _, fun k' => by simp only [fieldAddrK, hf, h1, h3], h4⟩
    · obtain ⟨cs, h3, h4⟩ := asP_nat h2
      exact ⟨_, _, _, fun k' => by simp only [fieldAddrK, hf, h1, h3], h4⟩
    · cases h2
  · cases h
theorem fieldK_nat {T : TypeId} {f : Nat} {x : V} (h : fieldK P l k T f x = some r) : Nat3 (fun k' => fieldK P l k' T f x) k r := by
  unfold fieldK at h
  split at h
  · rename_i hf
    obtain ⟨v, h3, h4⟩ := ldC_nat h
    exact ⟨_, _, _, fun k' => by simp only [fieldK, hf, h3], h4⟩
  · cases h
theorem indexAddrK_nat {T : TypeId} {x i : V} (h : indexAddrK P l k T x i = some r) : Nat3 (fun k' => indexAddrK P l k' T x i) k r := by
  unfold indexAddrK at h
  split at h
  · rename_i h1 h2
    split at h
    · rename_i h3
      split at h
      · obtain ⟨n, cs, h4, h5⟩ := asSl_nat h
        obtain ⟨h6, h7⟩ := need_nat h5
        exact ⟨_, _, _, fun k' => by simp only [indexAddrK, h1, h2, h3, h4, h6], h7⟩
      · split at h
        · rename_i hl
          obtain ⟨h6, h7⟩ := need_nat h
          exact ⟨_, _, _, fun k' => by simp only [indexAddrK, h1, h2, h3, hl, h6], h7⟩
        · cases h
      · cases h
    · cases h
  · rename_i h1 h2
    split at h
    · rename_i h3
      split at h
      · obtain ⟨h6, h7⟩ := need_nat h
        exact ⟨_, _, _, fun k' => by simp only [indexAddrK, h1, h2, h3, h6], h7⟩
      · obtain ⟨cs, h4, h5⟩ := asP_nat h
        obtain ⟨h6, h7⟩ := need_nat h5
        exact ⟨_, _, _, fun k' => by simp only [indexAddrK, h1, h2, h3, h4, h6], h7⟩
      · cases h
    · cases h
  · cases h
theorem indexK_nat {T : TypeId} {x i : V} (h : indexK P l k T x i = some r) : Nat3 (fun k' => indexK P l k' T x i) k r := by
  unfold indexK at h
  split at h
  · rename_i h1 h2
    split at h
    · rename_i h3
      split at h
      · obtain ⟨h6, h7⟩ := need_nat h
        obtain ⟨v, h8, h9⟩ := ldC_nat h7
        exact ⟨_, _, _, fun k' => by simp only [indexK, h1, h2, h3, h6, h8], h9⟩
      · cases h
    · cases h
  · rename_i h1 h2
    split at h
    · obtain ⟨s, h3, h4⟩ := asS_nat h
      obtain ⟨h6, h7⟩ := need_nat h4
      exact ⟨_, _, _, fun k' => by simp only [indexK, h1, h2, h3, h6], h7⟩
    · cases h
  · cases h
theorem extractK_nat {i : Nat} {x : V} (h : extractK l k i x = some r) : Nat3 (fun k' => extractK l k' i x) k r := by
  unfold extractK at h
  split at h
  · split at h
    · rename_i h1; exact ⟨_, _, _, fun k' => by simp only [extractK, h1], h⟩
    · cases h
  · cases h
theorem capK_nat {T : TypeId} {x : V} (h : capK P l k T x = some r) : Nat3 (fun k' => capK P l k' T x) k r := by
  unfold capK at h
  split at h
  · rename_i hT
    exact ⟨_, _, _, fun k' => by simp only [capK, hT], h⟩
  · cases h
theorem lenK_nat {T : TypeId} {x : V} (h : lenK P l k T x = some r) : Nat3 (fun k' => lenK P l k' T x) k r := by
  unfold lenK at h
  split at h
  · rename_i hT
    obtain ⟨n, cs, h1, h2⟩ := asSl_nat h
    exact ⟨_, _, _, fun k' => by simp only [lenK, hT, h1], h2⟩
  · rename_i hT
    obtain ⟨s, h1, h2⟩ := asS_nat h
    exact ⟨_, _, _, fun k' => by simp only [lenK, hT, h1], h2⟩
  · rename_i hT
    split at h
    · rename_i hl; exact ⟨_, _, _, fun k' => by simp only [lenK, hT, hl], h⟩
    · cases h
  · rename_i x1 x2 o n el hT
    refine ⟨_, _, _, fun k' => ?_, h⟩
    cases x1 <;> simp only [lenK, hT]
  · cases h
theorem makeFuncK_nat {strict : Bool} {f : FuncId} {xs : List V} (h : makeFuncK P l k strict f xs = some r) : Nat3 (fun k' => makeFuncK P l k' strict f xs) k r := by
  unfold makeFuncK at h
  obtain ⟨ps, l', h1, h2⟩ := purL_nat h
  obtain ⟨h3, h4⟩ := need_nat h2
  exact ⟨_, _, _, fun k' => by simp only [makeFuncK, h1, h3], h4⟩
theorem maxK_nat {lt : Bool} {xs : List V} (h : maxK l k lt xs = some r) : Nat3 (fun k' => maxK l k' lt xs) k r := by
  unfold maxK at h
  split at h
  · obtain ⟨v, h1, h2⟩ := foldMax_nat h
    exact ⟨_, _, _, fun k' => by simp only [maxK, h1], h2⟩
  · cases h
theorem appendK_nat {cf : Cfg} {T : TypeId} {s x : V} {d : Nat} (h : appendK cf T s x d l k = some r) : Nat3 (fun k' => appendK cf T s x d l k') k r := by
  unfold appendK at h
  split at h
  · rename_i hT
    split at h
    · rename_i hi hz
      obtain ⟨m, cs, h1, h2⟩ := newsK_nat h
      split at h2
      · obtain ⟨h3, h4⟩ := need_nat h2
        exact ⟨_, _, _, fun k' => by simp only [appendK, hT, hi, hz, h1, h3], h4⟩
      · split at h2
        · rename_i hl
          obtain ⟨h3, h4⟩ := need_nat h2
          exact ⟨_, _, _, fun k' => by simp only [appendK, hT, hi, hz, h1, hl, h3], h4⟩
        · rename_i hl
          obtain ⟨h3, h4⟩ := need_nat h2
          exact ⟨_, _, _, fun k' => by simp only [appendK, hT, hi, hz, h1, hl, h3], h4⟩
        · cases h2
      · cases h2
    · cases h
  · cases h

theorem appMakeK_nat {P : Program} {T T' : TypeId} {s x : V} {d : Nat} (h : appMakeK P l k T T' s x d = some r) : Nat3 (fun k' => appMakeK P l k' T T' s x d) k r := by
  unfold appMakeK at h
  split at h
  · rename_i h1 h2 h3
    split at h
    · rename_i h4 h5
      obtain ⟨h6, h7⟩ := need_nat h
      exact ⟨_, _, _, fun k' => by simp only [appMakeK, h1, h2, h3, h4, h5, h6], h7⟩
    · cases h
  · cases h

theorem takeK_nat {m d : Nat} {xo : List (Option TypeId)} {ty : TypeId} {v : V} {os : List Obj} {l : Loc} (h : takeK P m d xo ty v os l k = some r) : Nat3 (fun k' => takeK P m d xo ty v os l k') k r := by
  unfold takeK at h
  split at h
  · rename_i ts hts
    unfold rT at h
    split at h
    · obtain ⟨ys, l2, ks, h1, h2⟩ := takeL_nat h
      exact ⟨_, _, _, fun k' => by simp only [takeK, hts, rT, h1], h2⟩
    · cases h
  · rename_i hne
    obtain ⟨y, i2, os2, l2, ks, h1, h2⟩ := take1_nat h
    refine ⟨_, _, _, fun k' => ?_, h2⟩
    simp only [takeK]
    exact h1 _

theorem callK_nat {cf : Cfg} {strict : Bool} {hd : List Nat} {xo : List (Option TypeId)} {f : FuncId} {xs : List V} {ty : TypeId} {dst : Option Nat} (h : callK cf strict hd xo f xs ty dst l k = some r) : Nat3 (fun k' => callK cf strict hd xo f xs ty dst l k') k r := by
  unfold callK at h
  obtain ⟨ys, l1, ss, h1, h2⟩ := marsh_nat h
  obtain ⟨h3, h4⟩ := need_nat h2
  rw [Option.bind_eq_some_iff] at h4
  obtain ⟨out, h5, h6⟩ := h4
  obtain ⟨ro, l2, h7, h8⟩ := backK_nat h6
  split at h8
  · obtain ⟨x, l3, ks, h9, h10⟩ := takeK_nat h8
    exact ⟨x, l3, ks, fun k' => by simp only [callK, h1, h3, h5, Option.bind_some, h7]; exact h9 k', h10⟩
  · rename_i hne
    obtain ⟨v, h9, h10⟩ := retK_nat h8
    refine ⟨_, _, _, fun k' => ?_, h10⟩
    simp only [callK, h1, h3, h5, Option.bind_some, h7]
    exact h9 _

theorem yieldK_nat {P : Program} {strict : Bool} {n : Nat} {xs : List V} (h : yieldK P strict n xs l k = some r) : Nat3 (fun k' => yieldK P strict n xs l k') k r := by
  unfold yieldK at h
  split at h
  · cases h
  obtain ⟨ys, l1, ss, h1, h2⟩ := marsh_nat h
  cases ss with
  | cons s ss => cases h2
  | nil =>
    cases hlog : l1.log with
    | none => rw [hlog] at h2; cases h2
    | some lg =>
      rw [hlog] at h2
      obtain ⟨h3, h4⟩ := need_nat h2
      cases hrest : lg.rest with
      | nil => rw [hrest] at h4; cases h4
      | cons x rest =>
        rw [hrest] at h4
        dsimp only at h4
        obtain ⟨h5, h6⟩ := need_nat h4
        exact ⟨_, _, _, fun k' => by simp only [yieldK, h1, hlog, h3, hrest, h5], h6⟩

theorem opK_nat {cf : Cfg} {strict : Bool} {o : Oper} {e : Operand → V} (h : opK cf strict o e l k = some r) : Nat3 (fun k' => opK cf strict o e l k') k r := by
  unfold opK at h
  have fin : ∀ {F : {S : Type} → (V → Loc → List Nat → Option S) → Option S}, Nat3 F k r → (∀ {S : Type} (k' : V → Loc → List Nat → Option S), opK cf strict o e l k' = F k') → Nat3 (fun k' => opK cf strict o e l k') k r := by
    intro F hF he
    obtain ⟨x, l', ks, h1, h2⟩ := hF
    exact ⟨x, l', ks, fun k' => by simp only [he, h1], h2⟩
  split at h
  case h_1 x ho => exact ⟨_, _, _, fun k' => by simp only [opK, ho], h⟩
  case h_2 x ho => exact ⟨_, _, _, fun k' => by simp only [opK, ho], h⟩
  case h_3 c a b ho => exact fin (pickK_nat h) fun k' => by simp only [opK, ho]
  case h_4 t ho =>
    split at h
    case h_2 => cases h
    case h_1 d hd => exact ⟨_, _, _, fun k' => by simp only [opK, ho, hd], h⟩
  case h_5 t x ho =>
    split at h
    case h_2 => cases h
    case h_1 d hd => exact fin (boxK_nat h) fun k' => by simp only [opK, ho, hd]
  case h_6 t parts ho => exact fin (buildK_nat h) fun k' => by simp only [opK, ho]
  case h_7 t n parts ho =>
    split at h
    case h_2 => cases h
    case h_1 d hd => exact fin (buildSliceK_nat h) fun k' => by simp only [opK, ho, hd]
  case h_8 t a ho => exact fin (loadK_nat h) fun k' => by simp only [opK, ho]
  case h_9 t a x ho => exact fin (storeK_nat h) fun k' => by simp only [opK, ho]
  case h_10 x ho => exact fin (nilK_nat h) fun k' => by simp only [opK, ho]
  case h_11 op t x y yt ho =>
    obtain ⟨v, h1, h2⟩ := binV_nat h
    exact ⟨_, _, _, fun k' => by simp only [opK, ho, h1], h2⟩
  case h_12 op t x ho =>
    obtain ⟨v, h1, h2⟩ := unV_nat h
    exact ⟨_, _, _, fun k' => by simp only [opK, ho, h1], h2⟩
  case h_13 src dst x ho =>
    obtain ⟨v, h1, h2⟩ := convV_nat h
    exact ⟨_, _, _, fun k' => by simp only [opK, ho, h1], h2⟩
  case h_14 fn first cap ho =>
    split at h
    case h_2 => cases h
    case h_1 f hf =>
      obtain ⟨h1, h2⟩ := need_nat h
      exact fin (makeFuncK_nat h2) fun k' => by simp only [opK, ho, hf, h1]
  case h_15 t n c ho =>
    split at h
    case h_2 => cases h
    case h_1 d hd => exact fin (makeSliceK_nat h) fun k' => by simp only [opK, ho, hd]
  case h_16 t x lo hi mx ho =>
    split at h
    · cases h
    · exact fin (sliceK_nat h) fun k' => by simp only [opK, ho]
  case h_17 T x f ho => exact fin (fieldAddrK_nat h) fun k' => by simp only [opK, ho]
  case h_18 T x f ho => exact fin (fieldK_nat h) fun k' => by simp only [opK, ho]
  case h_19 T x i ho => exact fin (indexAddrK_nat h) fun k' => by simp only [opK, ho]
  case h_20 T x i ho => exact fin (indexK_nat h) fun k' => by simp only [opK, ho]
  case h_21 x i ho => exact fin (extractK_nat h) fun k' => by simp only [opK, ho]
  case h_22 c ho =>
    split at h
    case h_1 hc =>
      split at h
      case h_2 => cases h
      case h_1 x T ha hT => exact fin (lenK_nat h) fun k' => by simp only [opK, ho, hc, ha, hT]
    case h_2 hc =>
      split at h
      case h_2 => cases h
      case h_1 d s x T T' hd ha hT =>
        cases hb : Nat.beq T T' with
        | false => rw [hb] at h; exact fin (appMakeK_nat h) fun k' => by simp only [opK, ho, hc, hd, ha, hT, hb, cond_false]
        | true => rw [hb] at h; exact fin (appendK_nat h) fun k' => by simp only [opK, ho, hc, hd, ha, hT, hb, cond_true]
    case h_3 hc =>
      split at h
      case h_2 => cases h
      case h_1 x T ha hT => exact fin (capK_nat h) fun k' => by simp only [opK, ho, hc, ha, hT]
    case h_4 hc => exact fin (maxK_nat h) fun k' => by simp only [opK, ho, hc]
    case h_5 hc => exact fin (maxK_nat h) fun k' => by simp only [opK, ho, hc]
    case h_6 => cases h
    case h_7 => cases h
    case h_8 f hc =>
      split at h
      case h_1 f' => exact fin (callK_nat h) fun k' => by simp only [opK, ho, hc]
      case h_2 hne =>
        split at h
        case h_2 => cases h
        case h_1 c' hx =>
          unfold asYF at h
          split at h
          · refine fin (callK_nat h) fun k' => ?_
            cases f with
            | func f'' => exact absurd rfl (hne f'')
            | _ => simp only [opK, ho, hc, hx, asYF]
          · refine fin (yieldK_nat h) fun k' => ?_
            cases f with
            | func f'' => exact absurd rfl (hne f'')
            | _ => simp only [opK, ho, hc, hx, asYF]
          · cases h
  case h_23 => cases h

end
end Go.PM
/- The pure machine: a region's operations, in the order of the text and in any order that its edges allow. -/
namespace Go.PM
open Go

variable {P : Program}

/-- One operation with its guard. -/
noncomputable def gop (cf : Cfg) (strict : Bool) (dsts : Nat → Option Nat) (o : Oper) (σ : St) : Option St :=
  match o.guard with
  | none => opK cf (cf.str strict o) o (σ.ev cf.glob) σ.loc fun x l ks => need (okKz strict ks && sepK cf strict o (σ.ev cf.glob)) (some (σ.after o.dst x l ks))
  | some (j, want) =>
    match dsts j with
    | none => none
    | some d =>
      match σ.get d with
      | .c (.v (.bool q)) => bif q == want then opK cf (cf.str strict o) o (σ.ev cf.glob) σ.loc (fun x l ks => need (okKz strict ks && sepK cf strict o (σ.ev cf.glob)) (some (σ.after o.dst x l ks))) else some (σ.after o.dst .un σ.loc [])
      | .un => some (σ.after o.dst .un σ.loc [])
      | _ => none

noncomputable def runG (cf : Cfg) (strict : Bool) (dsts : Nat → Option Nat) : List Oper → St → Option St
  | [], σ => some σ
  | o :: os, σ => (gop cf strict dsts o σ).bind (runG cf strict dsts os)

theorem set_get {l : Sl} {d : Nat} {x : V} (h : l.get d = x) (hx : x ≠ .und) : l.set d x = l := by
  by_cases hd : d < l.length
  · rw [Sl.get_lt hd] at h
    cases l with
    | mk f n =>
      simp only [Sl.set]
      congr 1
      funext t
      cases e : Nat.beq t d
      · rfl
      · rw [Nat.eq_of_beq_eq_true e]; exact h.symm
  · rw [Sl.get_ge hd] at h; exact absurd h.symm hx

theorem put_get {σ : St} {d : Nat} {x : V} (h : σ.get d = x) (hx : x ≠ .und) : σ.put (some d) x σ.loc = σ := by
  cases σ with
  | mk sl l => simp only [St.put]; rw [set_get h hx]

theorem opsK_ref {R : Type} {r : R} {cf : Cfg} {strict : Bool} {dsts : Nat → Option Nat} : ∀ {os : List Oper} {σ : St} {k : St → Option R} (_ : opsK cf strict dsts os σ k = some r), ∃ σ', runG cf strict dsts os σ = some σ' ∧ k σ' = some r
  | [], σ, k, h => ⟨σ, rfl, h⟩
  | o :: os, σ, k, h => by
    unfold opsK at h
    have step : ∀ {σ0 : St}, opK cf (cf.str strict o) o (σ0.ev cf.glob) σ0.loc (fun x l ks => need (okKz strict ks && sepK cf strict o (σ0.ev cf.glob)) (opsK cf strict dsts os (σ0.after o.dst x l ks) k)) = some r → ∃ σ1, opK cf (cf.str strict o) o (σ0.ev cf.glob) σ0.loc (fun x l ks => need (okKz strict ks && sepK cf strict o (σ0.ev cf.glob)) (some (σ0.after o.dst x l ks))) = some σ1 ∧ ∃ σ', runG cf strict dsts os σ1 = some σ' ∧ k σ' = some r := by
      intro σ0 h
      obtain ⟨x, l', ks, h1, h2⟩ := opK_nat h
      obtain ⟨h3, h4⟩ := need_some h2
      exact ⟨_, (h1 _).trans (by rw [h3]; rfl), opsK_ref h4⟩
    split at h
    · rename_i hg
      obtain ⟨σ1, h1, σ', h2, h3⟩ := step h
      exact ⟨σ', by simp only [runG, gop, hg, h1, Option.bind_some]; exact h2, h3⟩
    · rename_i j want hg
      split at h
      · cases h
      · rename_i d hd
        split at h
        · rename_i q hq
          have hb : ∀ b : Bool, σ.get d = B b → σ.put (some d) (B b) σ.loc = σ := fun b hb => put_get hb (by simp)
          have yes : q = want → opK cf (cf.str strict o) o (σ.ev cf.glob) σ.loc (fun x l ks => need (okKz strict ks && sepK cf strict o (σ.ev cf.glob)) (opsK cf strict dsts os (σ.after o.dst x l ks) k)) = some r → ∃ σ', runG cf strict dsts (o :: os) σ = some σ' ∧ k σ' = some r := by
            intro hqw h
            obtain ⟨σ1, h1, σ', h2, h3⟩ := step h
            refine ⟨σ', ?_, h3⟩
            have : (q == want) = true := by simp [hqw]
            simp only [runG, gop, hg, hd, hq, this, cond_true, h1, Option.bind_some]; exact h2
          have no : q ≠ want → opsK cf strict dsts os (σ.after o.dst .un σ.loc []) k = some r → ∃ σ', runG cf strict dsts (o :: os) σ = some σ' ∧ k σ' = some r := by
            intro hqw h
            obtain ⟨σ', h2, h3⟩ := opsK_ref h
            refine ⟨σ', ?_, h3⟩
            have : (q == want) = false := by simp [hqw]
            simp only [runG, gop, hg, hd, hq, this, cond_false, Option.bind_some]; exact h2
          cases want <;> cases q <;> simp only [cond_true, cond_false] at h
          · rw [hb false hq] at h; exact yes rfl h
          · rw [hb true hq] at h; exact no (by simp) h
          · rw [hb false hq] at h; exact no (by simp) h
          · rw [hb true hq] at h; exact yes rfl h
        · rename_i hq
          obtain ⟨σ', h2, h3⟩ := opsK_ref h
          exact ⟨σ', by simp only [runG, gop, hg, hd, hq, Option.bind_some]; exact h2, h3⟩
        · cases h

/-- What a run through a region holds. -/
structure RelR (P : Program) (cf : Cfg) (A : Fr) (σ : St) (pend : Nat → Prop) (a : Act) (w : World) : Prop where
  ex : ∃ E, E.w = w ∧ Rel P A E σ pend a

theorem okKz_ok {strict : Bool} {ks : List Nat} (h : okKz strict ks = true) : okKs ks = true := (Bool.and_eq_true_iff.1 h).1
theorem okKz_nil {ks : List Nat} (h : okKz true ks = true) : ks = [] := by
  cases ks with
  | nil => rfl
  | cons s ks => have := (Bool.and_eq_true_iff.1 h).2; cases this

theorem rv_ev {A : Fr} {E : Env} {σ : St} {pend : Nat → Prop} {a : Act} {G : Nat → Option (List C)} (hgl : GlobOk G A.w0 A.Pr0) (h : Rel P A E σ pend a) (y : Operand) : RV P E σ.loc (σ.ev G y) (a.eval y) := by
  cases y with
  | tmp t =>
    by_cases ht : t < σ.slots.length
    · exact h.slots t ht
    · show RV P E σ.loc (σ.get t) _
      have : σ.get t = .und := Sl.get_ge ht
      rw [this]; exact .und
  | const x =>
    show RV P E σ.loc (constV x) x
    unfold constV
    split
    · rename_i cs
      split
      · rename_i l hl
        have := RV.agg (P := P) (E := E) (l := σ.loc) (us := cs.toList) (constCs_rc hl)
        simpa using this
      · exact .und
    · split
      · rename_i c hc; exact .c (constC_rc hc)
      · exact .und
  | global g =>
    show RV P E σ.loc (match G g with | some cs => .c (.cp cs) | none => .und) _
    cases hg : G g with
    | none => exact .und
    | some cs => exact .c ((hgl g cs hg).held h.good.pr0)
  | func f => exact .c (.fn (us := []) rfl (by simp))

theorem gh_at {s k : Nat} (h : s < OUT) : (V.gh (OUT + k)).at s = false := by
  show Nat.beq (OUT + k) s = false
  cases e : Nat.beq (OUT + k) s
  · rfl
  · have := Nat.eq_of_beq_eq_true e; omega

theorem rel_after {A : Fr} {E : Env} {σ : St} {pend pend' : Nat → Prop} {a : Act} (h : Rel P A E σ pend a) {x : V} {l' : Loc} {ks : List Nat} {u : Value} {w' : World} {dst : Option Nat} (htm : ∀ d, dst = some d → A.tm d = none) (hks : okKs ks = true) (hup : Up P A E σ.loc pend' x l' ks u w') :
    ∃ E', E'.w = w' ∧ Rel P A E' (σ.after dst x l' ks) pend' (a.put dst u) := by
  obtain ⟨E', h1, ⟨h2, h2d⟩, h3, h4⟩ := hup
  have hk : ∀ (ks : List Nat) (sl : Sl), (killAll ks sl).length = sl.length := by
    intro ks sl
    induction ks with
    | nil => rfl
    | cons s ks ih => simp only [killAll, List.foldr_cons, Sl.map_length]; exact ih
  have hkg : ∀ (ks : List Nat) (sl : Sl) (t : Nat) (v : Value), t < sl.length → RV P E σ.loc (sl.get t) v → ∃ y, (killAll ks sl).get t = y ∧ RV P E σ.loc y v ∧ ∀ s ∈ ks, y.at s = false := by
    intro ks sl t v ht hv
    induction ks with
    | nil => exact ⟨_, rfl, hv, by simp⟩
    | cons s ks ih =>
      obtain ⟨y, e, hy, hat⟩ := ih
      have hl : t < (killAll ks sl).length := by rw [hk]; exact ht
      refine ⟨y.kill s, ?_, hy.kill s, fun s' hs' => ?_⟩
      · show ((killAll ks sl).map (V.kill s)).get t = y.kill s
        rw [Sl.map_lt hl, e]
      · rcases List.mem_cons.1 hs' with rfl | hs'
        · exact at_kill s' y
        · unfold V.kill
          cases y.at s
          · exact hat s' hs'
          · rfl
  have hloc : (σ.after dst x l' ks).loc = l' := by cases dst <;> rfl
  refine ⟨E', h1, ?_, ?_, ?_, ?_, ?_, ?_, ?_⟩
  · rw [hloc]; exact h2
  · rw [hloc]
    intro t ht
    have hlen : t < σ.slots.length := by
      cases dst <;> simp [St.after, St.put, hk] at ht <;> exact ht
    have base : ∀ v, RV P E σ.loc (σ.get t) v → RV P E' l' ((killAll ks σ.slots).get t) v := by
      intro v hv
      obtain ⟨y, e, hy, hat⟩ := hkg ks σ.slots t v hlen hv
      rw [e]; exact h4 y v hy hat
    cases dst with
    | none => exact base _ (h.slots t hlen)
    | some d =>
      by_cases hd : d = t
      · subst hd
        have hkl : d < (killAll ks σ.slots).length := by rw [hk]; exact hlen
        have e1 : (σ.after (some d) x l' ks).get d = x := Sl.set_self hkl
        have hal : d < a.tmps.size := by rw [h.size]; exact hlen
        have e2 : (a.put (some d) u).tmps.getD d undef = u := by simp [Act.put, Array.getD, hal]
        rw [e1, e2]; exact h3
      · have e1 : (σ.after (some d) x l' ks).get t = (killAll ks σ.slots).get t := Sl.set_ne hd
        have e2 : (a.put (some d) u).tmps.getD t undef = a.tmps.getD t undef := by
          simp only [Act.put, Array.getD, Array.size_setIfInBounds]
          by_cases hlt : t < a.tmps.size
          · simp [hlt, Array.getElem_setIfInBounds_ne, hd]
          · simp [hlt]
        rw [e1, e2]; exact base _ (h.slots t hlen)
  · cases dst <;> simp [Act.put, St.after, St.put, hk, h.size]
  · rw [h2d]; cases dst <;> exact h.defers
  · intro t v hv
    have := h.tm t v hv
    cases dst with
    | none => exact this
    | some d =>
      have hd : d ≠ t := fun e => by subst e; rw [htm d rfl] at hv; cases hv
      have e2 : (a.put (some d) u).tmps.getD t undef = a.tmps.getD t undef := by
        simp only [Act.put, Array.getD, Array.size_setIfInBounds]
        by_cases hlt : t < a.tmps.size
        · simp [hlt, Array.getElem_setIfInBounds_ne, hd]
        · simp [hlt]
      rw [e2]; exact this
  · rw [← h.len]; cases dst <;> simp [St.after, St.put, hk]
  · intro k g n hk'
    rw [hloc]
    exact h4 _ _ (h.outs k g n hk') fun s hs => gh_at (Nat.le_of_ble_eq_true (List.all_eq_true.1 hks s hs))

end Go.PM
/- The pure machine: regions. -/
namespace Go.PM
open Go

variable {P : Program}

structure CfgOk (P : Program) (cf : Cfg) (A : Fr) : Prop where
  hP : cf.P = P
  con : ∀ f args objs out, cf.call f args objs = some out → ConAt P cf.glob f args objs out
  fn : ∀ f args objs out, cf.call f args objs = some out → ∃ fn, P.funcs[f]? = some fn ∧ fn.body ≠ none ∧ (fn.name == "runtime.NumGoroutine") = false
  mixed : P.follows .mixedOrders = true
  iter : ∀ f caps xs, cf.iter f caps = some xs → ∀ l go, ∃ out lg, cf.call f (.c (.yl l go xs) :: caps.map .c) [] = some out ∧ out.log = some lg ∧ (lg.st = true ∨ lg.rest = [])
  gl : GlobOk cf.glob A.w0 A.Pr0

/-- No fence but the frame's own loop. -/
def FW (ro : Option Nat) : Fence := { Fence.wide with round := ro }

/-- An operation that is passed over, or done. -/
def doOp (ro : Option Nat) (P : Program) (o : Oper) (b : Bool) (a : Act) (w : World) (K : Act → World → Prop) (Q : Exit → Act → World → Prop) : Prop :=
  if b then o.wpIn (FW ro) 0 P a w K Q else (∀ f, o.about P w a.eval = some f → (FW ro).fn f) ∧ K (a.put o.dst undef) w

theorem gives_wp {ro : Option Nat} {o : Oper} {a : Act} {w : World} {Φ : Value → World → Prop} {K : Act → World → Prop} {Q : Exit → Act → World → Prop} (hnd : ∀ c, o.op ≠ .defer c)
    (h : Gives P ((execOp a.eval o).run P w) Φ) (hK : ∀ u w', Φ u w' → K (a.put o.dst u) w') : o.wpIn (FW ro) 0 P a w K Q := by
  unfold Oper.wpIn
  refine ⟨fun _ _ => trivial, ?_⟩
  rw [Oper.semAt_eq (FW ro).round a.eval o hnd]
  generalize (execOp a.eval o).run P w = r at h ⊢
  cases r with
  | ok n w' =>
    cases n with
    | value u => exact hK _ _ h
    | skip => exact hK _ _ h
    | enter f args =>
      have h1 : CallsIn (FW ro) 0 P f args w' (fun e w'' => ∃ u, e = .returned u ∧ Φ u w'') := callsIn_wide.2 h
      refine ⟨fun e => (by cases e), CallsIn.mono h1 fun e w'' he => ?_⟩
      obtain ⟨u, rfl, hu⟩ := he
      exact hK _ _ hu
    | round l f tmps assign body =>
      have h1 : RoundIn (FW ro) 0 P l f tmps assign body w' (fun e w'' => ∃ u, e = .returned u ∧ Φ u w'') := h
      refine ⟨fun e => (by cases e), RoundIn.mono h1 fun e w'' he => ?_⟩
      obtain ⟨u, rfl, hu⟩ := he
      exact hK _ _ hu
    | _ => exact h.elim
  | halt x w' => exact h.elim

theorem opK_nodefer {cf : Cfg} {strict : Bool} {o : Oper} {e : Operand → V} {l : Loc} {R : Type} {k : V → Loc → List Nat → Option R} {r : R} (h : opK cf strict o e l k = some r) (c : Call) : o.op ≠ .defer c := by
  intro ho
  unfold opK at h
  rw [ho] at h
  cases h

section
variable {cf : Cfg} {strict : Bool} {ops : Array Oper} {A : Fr} {Q : Exit → Act → World → Prop}

/-- What a region's text fixes of its variables. -/
structure Fixed (A : Fr) (ops : Array Oper) : Prop where
  pt : ∀ (i : Nat) (o : Oper) (t : TypeId) (d : Nat), ops[i]? = some o → o.op = .alloc t → o.dst = some d → A.pt d = t
  gd : ∀ (i : Nat) (o : Oper), ops[i]? = some o → isAlloc o = true → o.guard = none

theorem gop_step {ro : Option Nat} (hc : CfgOk P cf A) {o : Oper} (hgd : isAlloc o = true → o.guard = none) (hpt : ∀ t d, o.op = .alloc t → o.dst = some d → A.pt d = t) {E : Env} {σ : St} {pend : Nat → Prop} {a : Act} (h : Rel P A E σ pend a)
    (htm : ∀ d, o.dst = some d → A.tm d = none) (hal : isAlloc o = true → ∀ d, o.dst = some d → pend d) (hnd : isAlloc o = false → ∀ d, o.dst = some d → ¬ pend d) {σ1 : St}
    (hg : gop cf strict (fun j => (ops[j]?).bind (·.dst)) o σ = some σ1) {K : Act → World → Prop} (hK : ∀ E' a', Rel P A E' σ1 (pendAfter pend o) a' → K a' E'.w) :
    doOp ro P o (Region.wanted o (yielded ops a.tmps)) a E.w K Q := by
  have run : Region.wanted o (yielded ops a.tmps) = true → opK cf (cf.str strict o) o (σ.ev cf.glob) σ.loc (fun x l ks => need (okKz strict ks && sepK cf strict o (σ.ev cf.glob)) (some (σ.after o.dst x l ks))) = some σ1 → doOp ro P o (Region.wanted o (yielded ops a.tmps)) a E.w K Q := by
    intro hw hk
    unfold doOp
    rw [if_pos hw]
    obtain ⟨x, l', ks, h1, h2⟩ := opK_sound (P := P) (ρ := a.eval) h.good hc.hP hc.con (hc.gl.held h.good.pr0) hc.fn (fun y _ => rv_ev hc.gl h y) (fun f => rfl)
      (fun t d ho hd => ⟨hal (by simp [isAlloc, ho]) d hd, hpt t d ho hd⟩) hnd hk
    refine gives_wp (opK_nodefer hk) h2 fun u w' hu => ?_
    obtain ⟨hks, h1⟩ := need_some h1
    obtain ⟨E', e1, h3⟩ := rel_after (dst := o.dst) h htm (okKz_ok (Bool.and_eq_true_iff.1 hks).1) hu
    injection h1 with h1
    rw [h1] at h3
    rw [← e1]; exact hK E' _ h3
  have idle : isAlloc o = false → Region.wanted o (yielded ops a.tmps) = false → some (σ.after o.dst .un σ.loc []) = some σ1 → doOp ro P o (Region.wanted o (yielded ops a.tmps)) a E.w K Q := by
    intro hna hw hk
    unfold doOp
    rw [if_neg (by simp [hw])]
    refine ⟨fun _ _ => trivial, ?_⟩
    obtain ⟨E', e1, h3⟩ := rel_after (dst := o.dst) (x := .un) (l' := σ.loc) (ks := []) (u := undef) (w' := E.w) (pend' := pend) h htm rfl ⟨E, rfl, ⟨h.good, rfl⟩, .un, fun _ _ h _ => h⟩
    injection hk with hk
    rw [hk] at h3
    rw [← e1]
    refine hK E' _ ?_
    rw [pendAfter_eq hna]; exact h3
  unfold gop at hg
  split at hg
  · rename_i hn
    exact run (by simp [Region.wanted, hn]) hg
  · rename_i j want hj
    have hna : isAlloc o = false := by
      cases e : isAlloc o
      · rfl
      · rw [hgd e] at hj; cases hj
    split at hg
    · cases hg
    · rename_i d hd
      have hd' : (ops[j]?).bind (·.dst) = some d := hd
      have hr := rv_ev hc.gl h (.tmp d)
      split at hg
      · rename_i q hq
        have hv : a.tmps.getD d undef = .bool q := by
          have : RV P E σ.loc (σ.get d) (a.tmps.getD d undef) := hr
          rw [hq] at this
          generalize a.tmps.getD d undef = u at this ⊢
          cases this with
          | c h => cases h; rfl
        have hy : yielded ops a.tmps j = some q := by
          unfold yielded
          rw [hd']
          by_cases hlt : d < a.tmps.size
          · have e : a.tmps[d] = .bool q := by simpa [Array.getD, hlt] using hv
            simp [hlt, e]
          · simp [Array.getD, hlt, undef] at hv
        cases hb : (q == want)
        · rw [hb] at hg
          refine idle hna ?_ hg
          unfold Region.wanted
          rw [hj]
          simp only [hy]
          simpa using hb
        · rw [hb] at hg
          refine run ?_ hg
          unfold Region.wanted
          rw [hj]
          simp only [hy]
          simpa using hb
      · rename_i hq
        have hv : a.tmps.getD d undef = undef := by
          have : RV P E σ.loc (σ.get d) (a.tmps.getD d undef) := hr
          rw [hq] at this
          generalize a.tmps.getD d undef = u at this ⊢
          cases this; rfl
        have hy : yielded ops a.tmps j = none := by
          unfold yielded
          rw [hd']
          by_cases hlt : d < a.tmps.size
          · have e : a.tmps[d] = undef := by simpa [Array.getD, hlt] using hv
            simp [hlt, e, undef]
          · simp [hlt]
        refine idle hna ?_ hg
        unfold Region.wanted
        rw [hj]
        simp [hy]
      · cases hg

/-- A variable that a region is yet to make. -/
theorem Good.pend {E : Env} {l : Loc} {pend : Nat → Prop} (h : Good P A E l pend) {d : Nat} {t : TypeId} {cs : List C} (hd : l d = .dead) (hp : ¬ pend d) (ht : A.pt d = t) (hz : zeroCs P t = some cs)
    (href : ∀ s' t x, l s' = .rf t x → x.at d = false) : Good P A E (l.put d (.ob t 0 cs)) (fun s => pend s ∨ s = d) := by
  have hr : E.rho d = none := by
    have := h.obj d hp
    rw [hd] at this
    cases this; assumption
  refine ⟨fun s hs => ?_, fun s hs => ?_, h.inj, h.base, fun b k hb => ⟨(h.prot b k hb).1, fun s hs => ?_⟩, h.jf, h.pr0, h.prN, h.size, h.os, h.tape, h.output, h.yok, h.yown, h.ylt, h.dm⟩
  · have hne : s ≠ d := fun e => hs (.inr e)
    rw [put_other _ _ hne]
    refine (h.obj s fun e => hs (.inl e)).keep (.refl _ _) rfl rfl (fun _ _ => rfl) fun t' x u hx hv => ?_
    refine hv.mono (fun s => s = d) (.refl _ _) (fun s' hne' => ?_) (fun s' e => by subst e; exact href s t' x hx)
    by_cases hd' : l s' = .dead
    · exact .inl (by rw [put_other _ _ hne']; exact hd')
    · exact .inr ⟨hd', rfl, rfl, .same (put_other _ _ hne')⟩
  · by_cases e : s = d
    · subst e; exact ⟨hr, cs, by rw [ht]; exact hz, by rw [put_same, ht]⟩
    · rw [put_other _ _ e]; exact h.pnd s (hs.resolve_right e)
  · have hne : s ≠ d := fun e => by rw [e, hr] at hs; cases hs
    rw [put_other _ _ hne]; exact (h.prot b k hb).2 s hs

theorem any_beq {d : Nat} {l : List Nat} : l.any (Nat.beq d) = true ↔ d ∈ l := by
  rw [List.any_eq_true]
  constructor
  · rintro ⟨x, hx, e⟩; rw [Nat.eq_of_beq_eq_true e]; exact hx
  · exact fun h => ⟨d, h, Nat.beq_refl d⟩

theorem allocDsts_cons (o : Oper) (os : List Oper) : allocDsts (o :: os) = (match allocDst o with | some d => d :: allocDsts os | none => allocDsts os) := by
  simp only [allocDsts, List.filterMap_cons]
  cases allocDst o <;> rfl

theorem allocs_sound : ∀ (os : List Oper) {E : Env} {σ : St} {pend : Nat → Prop} {a : Act} {σ1 : St} (_ : Rel P A E σ pend a) (_ : ∀ d ∈ allocDsts os, ¬ pend d) (_ : nodupB (allocDsts os) = true)
    (_ : ∀ o ∈ os, ∀ t d, o.op = .alloc t → o.dst = some d → A.pt d = t) (_ : allocs P os σ = some σ1),
    ∃ E', E'.w = E.w ∧ Rel P A E' σ1 (fun s => pend s ∨ s ∈ allocDsts os) a ∧ ∀ o ∈ os, isAlloc o = true → o.guard = none
  | [], E, σ, pend, a, σ1, h, _, _, _, hk => by
    injection hk with hk
    subst hk
    refine ⟨E, rfl, ?_, by simp⟩
    have : (fun s => pend s ∨ s ∈ allocDsts []) = pend := by funext s; simp [allocDsts]
    rw [this]; exact h
  | o :: os, E, σ, pend, a, σ1, h, hp, hn, hpt, hk => by
    rw [allocDsts_cons] at hp hn ⊢
    unfold allocs at hk
    split at hk
    case h_1 t d ho hd hgd =>
      have e1 : allocDst o = some d := by simp [allocDst, isAlloc, ho, hd]
      rw [e1] at hp hn ⊢
      simp only [nodupB, Bool.and_eq_true, Bool.not_eq_true'] at hn
      have hnd : d ∉ allocDsts os := fun e => by have := any_beq.2 e; rw [hn.1] at this; cases this
      split at hk
      case h_2 => cases hk
      case h_1 zs hz =>
        obtain ⟨hlt, hk⟩ := need_some hk
        have hlt : d < OUT := Nat.le_of_ble_eq_true hlt
        have hG := h.good.kill (hp d (by simp))
        have hG2 := hG.pend (d := d) (t := t) (cs := zs) (by simp [Loc.kill]) (hp d (by simp)) (hpt o (by simp) t d ho hd) hz (fun s' t' x hs => by
          rcases kill_cases d σ.loc s' with e | ⟨e, _, e2⟩
          · rw [e] at hs; cases hs
          · rw [e] at hs; exact e2 t' x hs)
        have h2 : Rel P A (E.kill σ.loc d) ⟨σ.slots.map (V.kill d), (σ.loc.kill d).put d (.ob t 0 zs)⟩ (fun s => pend s ∨ s = d) a := by
          refine ⟨hG2, fun t' ht' => ?_, by rw [h.size]; simp, h.defers, h.tm, by rw [← h.len]; simp, fun k g n hk' => ?_⟩
          · have hlt : t' < σ.slots.length := by simpa using ht'
            have e : St.get ⟨σ.slots.map (V.kill d), (σ.loc.kill d).put d (.ob t 0 zs)⟩ t' = (σ.get t').kill d := Sl.map_lt hlt
            rw [e]
            have r1 : RV P (E.kill σ.loc d) (σ.loc.kill d) ((σ.get t').kill d) (a.tmps.getD t' undef) := RV.mono0 (E := E) (l := σ.loc) (E' := E.kill σ.loc d) (l' := σ.loc.kill d) (.refl _ _) (fun s => .kill E σ.loc d s) ((h.slots t' hlt).kill d)
            refine r1.mono (fun s => s = d) (.refl _ _) (fun s' hne' => ?_) (fun s' e => by subst e; exact at_kill _ _)
            by_cases hd' : σ.loc.kill d s' = .dead
            · exact .inl (by simp only; rw [put_other _ _ hne']; exact hd')
            · exact .inr ⟨hd', rfl, rfl, .same (put_other _ _ hne')⟩
          · have r1 : RV P (E.kill σ.loc d) (σ.loc.kill d) (.gh (OUT + k)) (ghv g n) := RV.mono0 (E := E) (l := σ.loc) (E' := E.kill σ.loc d) (l' := σ.loc.kill d) (.refl _ _) (fun s => .kill E σ.loc d s) (h.outs k g n hk')
            refine r1.mono (fun s => s = d) (.refl _ _) (fun s' hne' => ?_) (fun s' e => by subst e; exact gh_at hlt)
            by_cases hd' : σ.loc.kill d s' = .dead
            · exact .inl (by simp only; rw [put_other _ _ hne']; exact hd')
            · exact .inr ⟨hd', rfl, rfl, .same (put_other _ _ hne')⟩
        obtain ⟨E', g1, g2, g3⟩ := allocs_sound os h2 (fun d' hd' e => by
          rcases e with e | e
          · exact hp d' (List.mem_cons_of_mem _ hd') e
          · subst e; exact hnd hd') hn.2 (fun o ho => hpt o (List.mem_cons_of_mem _ ho)) hk
        refine ⟨E', g1, ?_, fun o' ho' hi' => ?_⟩
        · have : (fun s => pend s ∨ s ∈ d :: allocDsts os) = (fun s => (pend s ∨ s = d) ∨ s ∈ allocDsts os) := by funext s; simp [or_assoc]
          rw [this]; exact g2
        · rcases List.mem_cons.1 ho' with rfl | ho'
          · exact hgd
          · exact g3 o' ho' hi'
    case h_2 => cases hk
    case h_3 hne1 hne2 =>
      have hna : isAlloc o = false := by
        unfold isAlloc
        split
        · rename_i t ho; exact (hne1 t ho).elim
        · rfl
      have e1 : allocDst o = none := by simp [allocDst, hna]
      rw [e1] at hp hn ⊢
      obtain ⟨E', g1, g2, g3⟩ := allocs_sound os h hp hn (fun o ho => hpt o (List.mem_cons_of_mem _ ho)) hk
      refine ⟨E', g1, g2, fun o' ho' hi' => ?_⟩
      rcases List.mem_cons.1 ho' with rfl | ho'
      · rw [hna] at hi'; cases hi'
      · exact g3 o' ho' hi'
end

end Go.PM
/- The pure machine: what an operation of a drawn region may change, and what it looks at. -/
namespace Go.PM
open Go

variable {P : Program} {R : Type} {r : R}

theorem pur_strict {x : V} {l : Loc} {k : List C → Loc → Option R} (h : pur P true x l k = some r) : ∃ cs, (∀ {S : Type} (l2 : Loc) (k' : List C → Loc → Option S), pur P true x l2 k' = k' cs l2) ∧ k cs l = some r := by
  cases x with
  | c c => exact ⟨_, fun l2 k' => rfl, h⟩
  | agg cs => exact ⟨_, fun l2 k' => rfl, h⟩
  | _ => simp [pur] at h

theorem purL_strict : ∀ {xs : List V} {l : Loc} {k : List (List C) → Loc → Option R} (_ : purL P true xs l k = some r), ∃ ps, (∀ {S : Type} (l2 : Loc) (k' : List (List C) → Loc → Option S), purL P true xs l2 k' = k' ps l2) ∧ k ps l = some r
  | [], l, k, h => ⟨[], fun l2 k' => rfl, h⟩
  | x :: xs, l, k, h => by
    obtain ⟨cs, h1, h2⟩ := pur_strict (show pur P true x l (fun cs l1 => purL P true xs l1 fun ps l2 => k (cs :: ps) l2) = some r from h)
    obtain ⟨ps, h3, h4⟩ := purL_strict h2
    exact ⟨cs :: ps, fun l2 k' => by simp only [purL, h1, h3], h4⟩

theorem hand1_strict (hd : List Nat) : hand1 true hd = false := by cases hd <;> rfl
theorem marsh_strict : ∀ {hd : List Nat} {xs : List V} {l : Loc} {ss : List Nat} {k : List V → Loc → List Nat → Option R} (_ : marsh P true hd xs l ss k = some r),
    ∃ ys, (∀ {S : Type} (l2 : Loc) (k' : List V → Loc → List Nat → Option S), marsh P true hd xs l2 ss k' = k' ys l2 ss) ∧ k ys l ss = some r
  | hd, [], l, ss, k, h => ⟨[], fun l2 k' => by simp [marsh], by simpa [marsh] using h⟩
  | hd, x :: xs, l, ss, k, h => by
    unfold marsh at h
    split at h
    · obtain ⟨ys, h1, h2⟩ := marsh_strict h
      exact ⟨_, fun l2 k' => by simp only [marsh, h1], h2⟩
    · obtain ⟨ys, h1, h2⟩ := marsh_strict h
      exact ⟨_, fun l2 k' => by simp only [marsh, h1], h2⟩
    · simp [pur, hand1_strict] at h
    · cases h
    · cases h

/-- What looks at no object, and changes none. -/
def EffQ {R : Type} (F : {S : Type} → Loc → (V → Loc → List Nat → Option S) → Option S) (l : Loc) (k : V → Loc → List Nat → Option R) (r : R) : Prop :=
  ∃ x, (∀ {S : Type} (l2 : Loc) (k' : V → Loc → List Nat → Option S), F l2 k' = k' x l2 []) ∧ k x l [] = some r
/-- What changes none. -/
def EffR {R : Type} (F : {S : Type} → (V → Loc → List Nat → Option S) → Option S) (l : Loc) (k : V → Loc → List Nat → Option R) (r : R) : Prop :=
  ∃ x, (∀ {S : Type} (k' : V → Loc → List Nat → Option S), F k' = k' x l []) ∧ k x l [] = some r
/-- What strikes none. -/
def EffW {R : Type} (F : {S : Type} → (V → Loc → List Nat → Option S) → Option S) (k : V → Loc → List Nat → Option R) (r : R) : Prop :=
  ∃ x l', (∀ {S : Type} (k' : V → Loc → List Nat → Option S), F k' = k' x l' []) ∧ k x l' [] = some r

section
variable {l : Loc} {k : V → Loc → List Nat → Option R}

theorem pickK_eff {c a b : V} (h : pickK l k c a b = some r) : EffQ (fun l k' => pickK l k' c a b) l k r := by
  unfold pickK at h
  split at h
  · exact ⟨_, fun l2 k' => rfl, h⟩
  · cases h

theorem boxK_eff {own : Bool} {t : TypeId} {d : Nat} {x : V} (h : boxK P l k true own t d x = some r) : EffQ (fun l k' => boxK P l k' true own t d x) l k r := by
  cases own
  · unfold boxK at h
    obtain ⟨cs, h1, h2⟩ := pur_strict h
    exact ⟨_, fun l2 k' => by simp only [boxK, h1], h2⟩
  · cases h

theorem buildK_eff  {t : TypeId} {is : List Nat} {xs : List V} (h : buildK P l k true t is xs = some r) : EffQ (fun l k' => buildK P l k' true t is xs) l k r := by
  unfold buildK at h
  split at h
  · rename_i hT hz
    obtain ⟨h0, h⟩ := need_nat h
    obtain ⟨ps, h1, h2⟩ := purL_strict h
    obtain ⟨cs, h3, h4⟩ := fillK_nat h2
    exact ⟨_, fun l2 k' => by simp only [buildK, hT, hz, h0, h1, h3], h4⟩
  · rename_i hT hz
    obtain ⟨h0, h⟩ := need_nat h
    obtain ⟨ps, h1, h2⟩ := purL_strict h
    obtain ⟨cs, h3, h4⟩ := fillK_nat h2
    exact ⟨_, fun l2 k' => by simp only [buildK, hT, hz, h0, h1, h3], h4⟩
  · cases h

theorem buildSliceK_eff {own : Bool} {t : TypeId} {n d : Nat} {is : List Nat} {xs : List V} (h : buildSliceK P l k true own t n d is xs = some r) : EffQ (fun l k' => buildSliceK P l k' true own t n d is xs) l k r := by
  unfold buildSliceK at h
  split at h
  · rename_i hT
    split at h
    · rename_i hz
      obtain ⟨ps, h1, h2⟩ := purL_strict h
      obtain ⟨cs, h3, h4⟩ := fillK_nat h2
      obtain ⟨h5, h6⟩ := need_nat h4
      cases own
      · exact ⟨_, fun l2 k' => by simp only [buildSliceK, hT, hz, h1, h3, h5], h6⟩
      · cases h6
    · cases h
  · cases h

theorem fieldK_eff {T : TypeId} {f : Nat} {x : V} (h : fieldK P l k T f x = some r) : EffQ (fun l k' => fieldK P l k' T f x) l k r := by
  unfold fieldK at h
  split at h
  · rename_i hf
    obtain ⟨v, h3, h4⟩ := ldC_nat h
    exact ⟨_, fun l2 k' => by simp only [fieldK, hf, h3], h4⟩
  · cases h

theorem indexK_eff {T : TypeId} {x i : V} (h : indexK P l k T x i = some r) : EffQ (fun l k' => indexK P l k' T x i) l k r := by
  unfold indexK at h
  split at h
  · rename_i h1 h2
    split at h
    · rename_i h3
      split at h
      · obtain ⟨h6, h7⟩ := need_nat h
        obtain ⟨v, h8, h9⟩ := ldC_nat h7
        exact ⟨_, fun l2 k' => by simp only [indexK, h1, h2, h3, h6, h8], h9⟩
      · cases h
    · cases h
  · rename_i h1 h2
    split at h
    · obtain ⟨s, h3, h4⟩ := asS_nat h
      obtain ⟨h6, h7⟩ := need_nat h4
      exact ⟨_, fun l2 k' => by simp only [indexK, h1, h2, h3, h6], h7⟩
    · cases h
  · cases h

theorem capK_eff {T : TypeId} {x : V} (h : capK P l k T x = some r) : EffQ (fun l k' => capK P l k' T x) l k r := by
  unfold capK at h
  split at h
  · rename_i hT
    exact ⟨_, fun l2 k' => by simp only [capK, hT], h⟩
  · cases h

theorem extractK_eff {i : Nat} {x : V} (h : extractK l k i x = some r) : EffQ (fun l k' => extractK l k' i x) l k r := by
  unfold extractK at h
  split at h
  · split at h
    · rename_i h1; exact ⟨_, fun l2 k' => by simp only [extractK, h1], h⟩
    · cases h
  · cases h

theorem makeFuncK_eff  {f : FuncId} {xs : List V} (h : makeFuncK P l k true f xs = some r) : EffQ (fun l k' => makeFuncK P l k' true f xs) l k r := by
  unfold makeFuncK at h
  obtain ⟨ps, h1, h2⟩ := purL_strict h
  obtain ⟨h3, h4⟩ := need_nat h2
  exact ⟨_, fun l2 k' => by simp only [makeFuncK, h1, h3], h4⟩

theorem maxK_eff {lt : Bool} {xs : List V} (h : maxK l k lt xs = some r) : EffQ (fun l k' => maxK l k' lt xs) l k r := by
  unfold maxK at h
  split at h
  · obtain ⟨v, h1, h2⟩ := foldMax_nat h
    exact ⟨_, fun l2 k' => by simp only [maxK, h1], h2⟩
  · cases h

theorem loadK_eff {t : TypeId} {a : V} (h : loadK P l k t a = some r) : EffR (fun k' => loadK P l k' t a) l k r := by
  unfold loadK at h
  split at h
  · obtain ⟨cs, h1, h2⟩ := asP_nat h
    obtain ⟨v, h3, h4⟩ := ldC_nat h2
    exact ⟨_, fun k' => by simp only [loadK, h1, h3], h4⟩
  · split at h
    · rename_i hl
      obtain ⟨v, h3, h4⟩ := ldC_nat h
      exact ⟨_, fun k' => by simp only [loadK, hl, h3], h4⟩
    · rename_i hl
      obtain ⟨v, h3, h4⟩ := ldC_nat h
      exact ⟨_, fun k' => by simp only [loadK, hl, h3], h4⟩
    · rename_i hl
      obtain ⟨h3, h4⟩ := need_nat h
      exact ⟨_, fun k' => by simp only [loadK, hl, h3], h4⟩
    · cases h
  · cases h

theorem nilK_eff {x : V} (h : nilK l k x = some r) : EffR (fun k' => nilK l k' x) l k r := by
  unfold nilK at h
  split at h
  · obtain ⟨h3, h4⟩ := need_nat h
    exact ⟨_, fun k' => by simp only [nilK, h3], h4⟩
  · split at h
    · exact ⟨_, fun k' => rfl, h⟩
    · exact ⟨_, fun k' => rfl, h⟩
    · cases h
  · cases h

theorem sliceK_eff {t : TypeId} {x : V} {lo hi : Option V} (h : sliceK P l k t x lo hi = some r) : EffR (fun k' => sliceK P l k' t x lo hi) l k r := by
  unfold sliceK at h
  split at h
  · rename_i hT
    split at h
    · obtain ⟨s, h1, h2⟩ := asS_nat h
      obtain ⟨a, h3, h4⟩ := bound_nat h2
      obtain ⟨b, h5, h6⟩ := bound_nat h4
      exact ⟨_, fun k' => by simp only [sliceK, hT, h1, h3, h5], h6⟩
    · cases h
  · rename_i hT
    split at h
    · rename_i hi'
      split at h
      · obtain ⟨c', h1, h2⟩ := sliceC_nat h
        exact ⟨_, fun k' => by simp only [sliceK, hT, hi', h1], h2⟩
      · split at h
        · rename_i hl
          obtain ⟨h1, h2⟩ := need_nat h
          obtain ⟨a, h3, h4⟩ := bound_nat h2
          obtain ⟨b, h5, h6⟩ := bound_nat h4
          exact ⟨_, fun k' => by simp only [sliceK, hT, hi', hl, h1, h3, h5], h6⟩
        · cases h
      · cases h
    · cases h
  · cases h

theorem fieldAddrK_eff {T : TypeId} {f : Nat} {x : V} (h : fieldAddrK P l k T f x = some r) : EffR (fun k' => fieldAddrK P l k' T f x) l k r := by
  unfold fieldAddrK at h
  split at h
  · rename_i hf
    obtain ⟨h1, h2⟩ := need_nat h
    split at h2
    · obtain ⟨h3, h4⟩ := need_nat h2
      exact ⟨_, fun k' => by simp only [fieldAddrK, hf, h1, h3], h4⟩
    · obtain ⟨cs, h3, h4⟩ := asP_nat h2
      exact ⟨_, fun k' => by simp only [fieldAddrK, hf, h1, h3], h4⟩
    · cases h2
  · cases h

theorem indexAddrK_eff {T : TypeId} {x i : V} (h : indexAddrK P l k T x i = some r) : EffR (fun k' => indexAddrK P l k' T x i) l k r := by
  unfold indexAddrK at h
  split at h
  · rename_i h1 h2
    split at h
    · rename_i h3
      split at h
      · obtain ⟨n, cs, h4, h5⟩ := asSl_nat h
        obtain ⟨h6, h7⟩ := need_nat h5
        exact ⟨_, fun k' => by simp only [indexAddrK, h1, h2, h3, h4, h6], h7⟩
      · split at h
        · rename_i hl
          obtain ⟨h6, h7⟩ := need_nat h
          exact ⟨_, fun k' => by simp only [indexAddrK, h1, h2, h3, hl, h6], h7⟩
        · cases h
      · cases h
    · cases h
  · rename_i h1 h2
    split at h
    · rename_i h3
      split at h
      · obtain ⟨h6, h7⟩ := need_nat h
        exact ⟨_, fun k' => by simp only [indexAddrK, h1, h2, h3, h6], h7⟩
      · obtain ⟨cs, h4, h5⟩ := asP_nat h
        obtain ⟨h6, h7⟩ := need_nat h5
        exact ⟨_, fun k' => by simp only [indexAddrK, h1, h2, h3, h4, h6], h7⟩
      · cases h
    · cases h
  · cases h

theorem lenK_eff {T : TypeId} {x : V} (h : lenK P l k T x = some r) : EffR (fun k' => lenK P l k' T x) l k r := by
  unfold lenK at h
  split at h
  · rename_i hT
    obtain ⟨n, cs, h1, h2⟩ := asSl_nat h
    exact ⟨_, fun k' => by simp only [lenK, hT, h1], h2⟩
  · rename_i hT
    obtain ⟨s, h1, h2⟩ := asS_nat h
    exact ⟨_, fun k' => by simp only [lenK, hT, h1], h2⟩
  · rename_i hT
    split at h
    · rename_i hl; exact ⟨_, fun k' => by simp only [lenK, hT, hl], h⟩
    · cases h
  · rename_i x1 x2 o n el hT
    refine ⟨_, fun k' => ?_, h⟩
    cases x1 <;> simp only [lenK, hT]
  · cases h

theorem storeRf_eff {t : TypeId} {s off : Nat} {t' : TypeId} {x : V} (h : storeRf P l k t s off t' x = some r) : EffW (fun k' => storeRf P l k' t s off t' x) k r := by
  unfold storeRf at h
  split at h
  · obtain ⟨h3, h4⟩ := need_nat h
    exact ⟨_, _, fun k' => by simp only [storeRf, h3], h4⟩
  · obtain ⟨h3, h4⟩ := need_nat h
    exact ⟨_, _, fun k' => by simp only [storeRf, h3], h4⟩
  · cases h

theorem storeOb_eff  {t : TypeId} {s off : Nat} {x : V} (h : storeOb P l k true t s off x = some r) : EffW (fun k' => storeOb P l k' true t s off x) k r := by
  unfold storeOb at h
  obtain ⟨cs, h1, h2⟩ := pur_strict h
  split at h2
  · rename_i hl
    obtain ⟨h3, h4⟩ := need_nat h2
    exact ⟨_, _, fun k' => by simp only [storeOb, h1, hl, h3], h4⟩
  · rename_i hl
    obtain ⟨h3, h4⟩ := need_nat h2
    exact ⟨_, _, fun k' => by simp only [storeOb, h1, hl, h3], h4⟩
  · cases h2

theorem storeK_eff  {t : TypeId} {a x : V} (h : storeK P l k true t a x = some r) : EffW (fun k' => storeK P l k' true t a x) k r := by
  unfold storeK at h
  split at h
  · split at h
    · rename_i t' fz cs hl
      cases hb : (isOwn x && Nat.beq cs.length 1 && Nat.beq fz 0) with
      | true =>
        rw [hb] at h
        obtain ⟨y, l', h1, h2⟩ := storeRf_eff h
        exact ⟨y, l', fun k' => by simp only [storeK, hl, hb, cond_true]; exact h1 k', h2⟩
      | false =>
        rw [hb] at h
        obtain ⟨y, l', h1, h2⟩ := storeOb_eff h
        exact ⟨y, l', fun k' => by simp only [storeK, hl, hb, cond_false]; exact h1 k', h2⟩
    · rename_i hl
      obtain ⟨y, l', h1, h2⟩ := storeOb_eff h
      exact ⟨y, l', fun k' => by simp only [storeK, hl]; exact h1 k', h2⟩
    · rename_i hl
      obtain ⟨y, l', h1, h2⟩ := storeRf_eff h
      exact ⟨y, l', fun k' => by simp only [storeK, hl]; exact h1 k', h2⟩
    · cases h
  · cases h

theorem callK_eff {cf : Cfg} {hd : List Nat} {xo : List (Option TypeId)} {f : FuncId} {xs : List V} {ty : TypeId} {dst : Option Nat} (h : callK cf true hd xo f xs ty dst l k = some r) : EffQ (fun l k' => callK cf true hd xo f xs ty dst l k') l k r := by
  unfold callK at h
  obtain ⟨ys, h1, h2⟩ := marsh_strict h
  obtain ⟨h3, h4⟩ := need_nat h2
  rw [Option.bind_eq_some_iff] at h4
  obtain ⟨out, h5, h6⟩ := h4
  have h8 : retK cf.P ty out.r (fun v => k v l []) = some r := by
    simp only [backK, thaw_same] at h6
    exact h6
  obtain ⟨v, h9, h10⟩ := retK_nat h8
  refine ⟨v, fun l2 k' => ?_, h10⟩
  simp only [callK, h1, List.map_nil] at h5 ⊢
  have h3' : noYl ys = true := by
    cases hn : noYl ys
    · rw [hn] at h2; simp [need, allOb] at h2
    · rfl
  simp only [allOb, h3', Bool.true_and, need, cond_true, h5, Option.bind_some, backK, thaw_same]
  exact h9 _

theorem opK_congr {cf : Cfg} {strict : Bool} {o : Oper} {e e' : Operand → V} {S : Type} {l : Loc} {k : V → Loc → List Nat → Option S} (h : ∀ y ∈ o.op.operands, e y = e' y) : opK cf strict o e l k = opK cf strict o e' l k := by
  obtain ⟨dst, op, type, pos, after, guard⟩ := o
  have pairs : ∀ ps : Array (Nat × Operand), (∀ x ∈ ps.map (·.2), e x = e' x) → (ps.toList.map fun p => e p.2) = (ps.toList.map fun p => e' p.2) := fun ps hp =>
    List.map_congr_left fun p hm => hp p.2 (Array.mem_map.2 ⟨p, by simpa using hm, rfl⟩)
  cases op <;> simp only [Op.operands] at h <;> simp only [opK]
  case build t ps => rw [pairs ps fun x hx => h x (by simpa using hx)]
  case buildSlice t n ps => rw [pairs ps fun x hx => h x (by simpa using hx)]
  case makeFunc fn first captured =>
    have e1 : captured.toList.map e = captured.toList.map e' := List.map_congr_left fun x hx => h x (by simp at hx ⊢; exact .inr hx)
    rw [e1]
  case slice t x lo hi mx =>
    have e0 : e x = e' x := h x (by simp)
    have e1 : lo.map e = lo.map e' := by cases lo <;> simp_all
    have e2 : hi.map e = hi.map e' := by cases hi <;> simp_all
    rw [e0, e1, e2]
  case call c =>
    have e1 : c.args.toList.map e = c.args.toList.map e' := List.map_congr_left fun x hx => h x (by simp [Call.operands] at hx ⊢; exact .inr hx)
    rw [e1]
    cases hc : c.callee with
    | builtin b =>
      cases b <;> simp only
      case len =>
        split
        · rename_i x T hx hT
          have : e x = e' x := h x (by simp [Call.operands]; right; have : x ∈ c.args.toList := by simp [hx]
                                       simpa using this)
          rw [this]
        · rfl
      case cap =>
        split
        · rename_i x T hx hT
          have : e x = e' x := h x (by simp [Call.operands]; right; have : x ∈ c.args.toList := by simp [hx]
                                       simpa using this)
          rw [this]
        · rfl
      case append =>
        split
        · rename_i d s x T T' hx hT
          have h1 : e s = e' s := h s (by simp [Call.operands]; right; have : s ∈ c.args.toList := by simp [hx]
                                          simpa using this)
          have h2 : e x = e' x := h x (by simp [Call.operands]; right; have : x ∈ c.args.toList := by simp [hx]
                                          simpa using this)
          rw [h1, h2]
        · rfl
    | invoke => rfl
    | value f =>
      have h1 : e f = e' f := h f (by simp [Call.operands, hc])
      simp only
      cases f <;> simp only [h1]
  all_goals (first | rfl | (simp_all; done))

theorem opK_eff {cf : Cfg} {o : Oper} {e : Operand → V} (h : opK cf true o e l k = some r) :
    ∃ x l', (isWriter o.op = false → l' = l) ∧ (∀ {S : Type} (l2 : Loc) (k' : V → Loc → List Nat → Option S), l2 = l ∨ isQuiet o.op = true → opK cf true o e l2 k' = k' x (bif isWriter o.op then l' else l2) []) ∧ k x l' [] = some r := by
  have fq : ∀ {F : {S : Type} → Loc → (V → Loc → List Nat → Option S) → Option S}, isWriter o.op = false → EffQ F l k r → (∀ {S : Type} (l2 : Loc) (k' : V → Loc → List Nat → Option S), opK cf true o e l2 k' = F l2 k') →
      ∃ x l', (isWriter o.op = false → l' = l) ∧ (∀ {S : Type} (l2 : Loc) (k' : V → Loc → List Nat → Option S), l2 = l ∨ isQuiet o.op = true → opK cf true o e l2 k' = k' x (bif isWriter o.op then l' else l2) []) ∧ k x l' [] = some r := by
    intro F hw hF he
    obtain ⟨x, h1, h2⟩ := hF
    exact ⟨x, l, fun _ => rfl, fun l2 k' _ => by rw [he, hw]; exact h1 l2 k', h2⟩
  have fr : ∀ {F : {S : Type} → (V → Loc → List Nat → Option S) → Option S}, isWriter o.op = false → isQuiet o.op = false → EffR F l k r → (∀ {S : Type} (k' : V → Loc → List Nat → Option S), opK cf true o e l k' = F k') →
      ∃ x l', (isWriter o.op = false → l' = l) ∧ (∀ {S : Type} (l2 : Loc) (k' : V → Loc → List Nat → Option S), l2 = l ∨ isQuiet o.op = true → opK cf true o e l2 k' = k' x (bif isWriter o.op then l' else l2) []) ∧ k x l' [] = some r := by
    intro F hw hq hF he
    obtain ⟨x, h1, h2⟩ := hF
    refine ⟨x, l, fun _ => rfl, fun l2 k' hl => ?_, h2⟩
    rcases hl with rfl | hl
    · rw [he, hw]; exact h1 k'
    · rw [hq] at hl; cases hl
  unfold opK at h
  split at h
  case h_1 x ho => exact fq (F := fun l k => k (e x) l []) (by simp [isWriter, ho]) ⟨_, fun l2 k' => rfl, h⟩ fun l2 k' => by simp only [opK, ho]
  case h_2 x ho => exact fq (F := fun l k => k (e x) l []) (by simp [isWriter, ho]) ⟨_, fun l2 k' => rfl, h⟩ fun l2 k' => by simp only [opK, ho]
  case h_3 c a b ho => exact fq (by simp [isWriter, ho]) (pickK_eff h) fun l2 k' => by simp only [opK, ho]
  case h_4 t ho =>
    split at h
    case h_2 => cases h
    case h_1 d hd => exact fq (F := fun l k => k (.ptr d 0) l []) (by simp [isWriter, ho]) ⟨_, fun l2 k' => rfl, h⟩ fun l2 k' => by simp only [opK, ho, hd]
  case h_5 t x ho =>
    split at h
    case h_2 => cases h
    case h_1 d hd => exact fq (by simp [isWriter, ho]) (boxK_eff h) fun l2 k' => by simp only [opK, ho, hd]
  case h_6 t parts ho => exact fq (by simp [isWriter, ho]) (buildK_eff h) fun l2 k' => by simp only [opK, ho]
  case h_7 t n parts ho =>
    split at h
    case h_2 => cases h
    case h_1 d hd => exact fq (by simp [isWriter, ho]) (buildSliceK_eff h) fun l2 k' => by simp only [opK, ho, hd]
  case h_8 t a ho => exact fr (by simp [isWriter, ho]) (by simp [isQuiet, ho]) (loadK_eff h) fun k' => by simp only [opK, ho]
  case h_9 t a x ho =>
    obtain ⟨x, l', h1, h2⟩ := storeK_eff h
    refine ⟨x, l', fun hw => by simp [isWriter, ho] at hw, fun l2 k' hl => ?_, h2⟩
    rcases hl with rfl | hl
    · simp only [opK, ho, isWriter, cond_true]; exact h1 k'
    · simp [isQuiet, ho] at hl
  case h_10 x ho => exact fr (by simp [isWriter, ho]) (by simp [isQuiet, ho]) (nilK_eff h) fun k' => by simp only [opK, ho]
  case h_11 op t x y yt ho =>
    obtain ⟨v, h1, h2⟩ := binV_nat h
    exact fq (F := fun l k => k v l []) (by simp [isWriter, ho]) ⟨v, fun l2 k' => rfl, h2⟩ fun l2 k' => by simp only [opK, ho, h1]
  case h_12 op t x ho =>
    obtain ⟨v, h1, h2⟩ := unV_nat h
    exact fq (F := fun l k => k v l []) (by simp [isWriter, ho]) ⟨v, fun l2 k' => rfl, h2⟩ fun l2 k' => by simp only [opK, ho, h1]
  case h_13 src dst x ho =>
    obtain ⟨v, h1, h2⟩ := convV_nat h
    exact fq (F := fun l k => k v l []) (by simp [isWriter, ho]) ⟨v, fun l2 k' => rfl, h2⟩ fun l2 k' => by simp only [opK, ho, h1]
  case h_14 fn first cap ho =>
    split at h
    case h_2 => cases h
    case h_1 f hf =>
      obtain ⟨h1, h2⟩ := need_nat h
      exact fq (by simp [isWriter, ho]) (makeFuncK_eff h2) fun l2 k' => by simp only [opK, ho, hf, h1]
  case h_15 t n c ho =>
    split at h
    case h_2 => cases h
    case h_1 => contradiction
  case h_16 t x lo hi mx ho =>
    split at h
    · cases h
    · exact fr (by simp [isWriter, ho]) (by simp [isQuiet, ho]) (sliceK_eff h) fun k' => by simp only [opK, ho]
  case h_17 T x f ho => exact fr (by simp [isWriter, ho]) (by simp [isQuiet, ho]) (fieldAddrK_eff h) fun k' => by simp only [opK, ho]
  case h_18 T x f ho => exact fq (by simp [isWriter, ho]) (fieldK_eff h) fun l2 k' => by simp only [opK, ho]
  case h_19 T x i ho => exact fr (by simp [isWriter, ho]) (by simp [isQuiet, ho]) (indexAddrK_eff h) fun k' => by simp only [opK, ho]
  case h_20 T x i ho => exact fq (by simp [isWriter, ho]) (indexK_eff h) fun l2 k' => by simp only [opK, ho]
  case h_21 x i ho => exact fq (by simp [isWriter, ho]) (extractK_eff h) fun l2 k' => by simp only [opK, ho]
  case h_22 c ho =>
    split at h
    case h_1 hc =>
      split at h
      case h_2 => cases h
      case h_1 x T ha hT => exact fr (by simp [isWriter, ho]) (by simp [isQuiet, ho, hc]) (lenK_eff h) fun k' => by simp only [opK, ho, hc, ha, hT]
    case h_2 hc =>
      split at h
      case h_2 => cases h
      case h_1 => contradiction
    case h_3 hc =>
      split at h
      case h_2 => cases h
      case h_1 x T ha hT => exact fq (by simp [isWriter, ho]) (capK_eff h) fun l2 k' => by simp only [opK, ho, hc, ha, hT]
    case h_4 hc => exact fq (by simp [isWriter, ho]) (maxK_eff h) fun l2 k' => by simp only [opK, ho, hc]
    case h_5 hc => exact fq (by simp [isWriter, ho]) (maxK_eff h) fun l2 k' => by simp only [opK, ho, hc]
    case h_6 => cases h
    case h_7 => cases h
    case h_8 f hc =>
      split at h
      case h_1 f' => exact fq (by simp [isWriter, ho]) (callK_eff h) fun l2 k' => by simp only [opK, ho, hc]
      case h_2 hne =>
        split at h
        case h_2 => cases h
        case h_1 c' hc' =>
          unfold asYF at h
          split at h
          · refine fq (by simp [isWriter, ho]) (callK_eff h) fun l2 k' => ?_
            cases f with
            | func f'' => exact absurd rfl (hne f'')
            | _ => simp only [opK, ho, hc, hc', asYF]
          · cases h
          · cases h
  case h_23 => cases h

/-- What looks at none of these objects, and changes none. -/
def EffS {R : Type} (L : List Nat) (F : {S : Type} → Loc → (V → Loc → List Nat → Option S) → Option S) (l : Loc) (k : V → Loc → List Nat → Option R) (r : R) : Prop :=
  ∃ x, (∀ {S : Type} (l2 : Loc) (k' : V → Loc → List Nat → Option S), (∀ s, L.any (Nat.beq s) = false → l2 s = l s) → F l2 k' = k' x l2 []) ∧ k x l [] = some r

theorem offS_ptr {L : List Nat} {s off : Nat} (h : offS L (.ptr s off) = true) : L.any (Nat.beq s) = false := by simpa [offS] using h
theorem offS_own {L : List Nat} {s off n : Nat} (h : offS L (.own s off n) = true) : L.any (Nat.beq s) = false := by simpa [offS] using h

theorem loadK_sep {L : List Nat} {t : TypeId} {a : V} (h : loadK P l k t a = some r) (hs : offS L a = true) : EffS L (fun l k' => loadK P l k' t a) l k r := by
  unfold loadK at h
  split at h
  · obtain ⟨cs, h1, h2⟩ := asP_nat h
    obtain ⟨v, h3, h4⟩ := ldC_nat h2
    exact ⟨_, fun l2 k' _ => by simp only [loadK, h1, h3], h4⟩
  · have hs := offS_ptr hs
    split at h
    · rename_i hl
      obtain ⟨v, h3, h4⟩ := ldC_nat h
      exact ⟨_, fun l2 k' e => by simp only [loadK, e _ hs, hl, h3], h4⟩
    · rename_i hl
      obtain ⟨v, h3, h4⟩ := ldC_nat h
      exact ⟨_, fun l2 k' e => by simp only [loadK, e _ hs, hl, h3], h4⟩
    · rename_i hl
      obtain ⟨h3, h4⟩ := need_nat h
      exact ⟨_, fun l2 k' e => by simp only [loadK, e _ hs, hl, h3], h4⟩
    · cases h
  · cases h

theorem nilK_sep {L : List Nat} {x : V} (h : nilK l k x = some r) (hs : offS L x = true) : EffS L (fun l k' => nilK l k' x) l k r := by
  unfold nilK at h
  split at h
  · have hs := offS_ptr hs
    obtain ⟨h3, h4⟩ := need_nat h
    exact ⟨_, fun l2 k' e => by simp only [nilK, e _ hs, h3], h4⟩
  · split at h
    · exact ⟨_, fun l2 k' _ => rfl, h⟩
    · exact ⟨_, fun l2 k' _ => rfl, h⟩
    · cases h
  · cases h

theorem sliceK_sep {L : List Nat} {t : TypeId} {x : V} {lo hi : Option V} (h : sliceK P l k t x lo hi = some r) (hs : offS L x = true) : EffS L (fun l k' => sliceK P l k' t x lo hi) l k r := by
  unfold sliceK at h
  split at h
  · rename_i hT
    split at h
    · obtain ⟨s, h1, h2⟩ := asS_nat h
      obtain ⟨a, h3, h4⟩ := bound_nat h2
      obtain ⟨b, h5, h6⟩ := bound_nat h4
      exact ⟨_, fun l2 k' _ => by simp only [sliceK, hT, h1, h3, h5], h6⟩
    · cases h
  · rename_i hT
    split at h
    · rename_i hi'
      split at h
      · obtain ⟨c', h1, h2⟩ := sliceC_nat h
        exact ⟨_, fun l2 k' _ => by simp only [sliceK, hT, hi', h1], h2⟩
      · have hs := offS_own hs
        split at h
        · rename_i hl
          obtain ⟨h1, h2⟩ := need_nat h
          obtain ⟨a, h3, h4⟩ := bound_nat h2
          obtain ⟨b, h5, h6⟩ := bound_nat h4
          exact ⟨_, fun l2 k' e => by simp only [sliceK, hT, hi', e _ hs, hl, h1, h3, h5], h6⟩
        · cases h
      · cases h
    · cases h
  · cases h

theorem fieldAddrK_sep {L : List Nat} {T : TypeId} {f : Nat} {x : V} (h : fieldAddrK P l k T f x = some r) (hs : offS L x = true) : EffS L (fun l k' => fieldAddrK P l k' T f x) l k r := by
  unfold fieldAddrK at h
  split at h
  · rename_i hf
    obtain ⟨h1, h2⟩ := need_nat h
    split at h2
    · have hs := offS_ptr hs
      obtain ⟨h3, h4⟩ := need_nat h2
      exact ⟨_, fun l2 k' e => by simp only [fieldAddrK, hf, h1, e _ hs, h3], h4⟩
    · obtain ⟨cs, h3, h4⟩ := asP_nat h2
      exact ⟨_, fun l2 k' _ => by simp only [fieldAddrK, hf, h1, h3], h4⟩
    · cases h2
  · cases h

theorem indexAddrK_sep {L : List Nat} {T : TypeId} {x i : V} (h : indexAddrK P l k T x i = some r) (hs : offS L x = true) : EffS L (fun l k' => indexAddrK P l k' T x i) l k r := by
  unfold indexAddrK at h
  split at h
  · rename_i h1 h2
    split at h
    · rename_i h3
      split at h
      · obtain ⟨n, cs, h4, h5⟩ := asSl_nat h
        obtain ⟨h6, h7⟩ := need_nat h5
        exact ⟨_, fun l2 k' _ => by simp only [indexAddrK, h1, h2, h3, h4, h6], h7⟩
      · have hs := offS_own hs
        split at h
        · rename_i hl
          obtain ⟨h6, h7⟩ := need_nat h
          exact ⟨_, fun l2 k' e => by simp only [indexAddrK, h1, h2, h3, e _ hs, hl, h6], h7⟩
        · cases h
      · cases h
    · cases h
  · rename_i h1 h2
    split at h
    · rename_i h3
      split at h
      · have hs := offS_ptr hs
        obtain ⟨h6, h7⟩ := need_nat h
        exact ⟨_, fun l2 k' e => by simp only [indexAddrK, h1, h2, h3, e _ hs, h6], h7⟩
      · obtain ⟨cs, h4, h5⟩ := asP_nat h
        obtain ⟨h6, h7⟩ := need_nat h5
        exact ⟨_, fun l2 k' _ => by simp only [indexAddrK, h1, h2, h3, h4, h6], h7⟩
      · cases h
    · cases h
  · cases h

theorem lenK_sep {L : List Nat} {T : TypeId} {x : V} (h : lenK P l k T x = some r) (hs : offS L x = true) : EffS L (fun l k' => lenK P l k' T x) l k r := by
  unfold lenK at h
  split at h
  · rename_i hT
    obtain ⟨n, cs, h1, h2⟩ := asSl_nat h
    exact ⟨_, fun l2 k' _ => by simp only [lenK, hT, h1], h2⟩
  · rename_i hT
    obtain ⟨s, h1, h2⟩ := asS_nat h
    exact ⟨_, fun l2 k' _ => by simp only [lenK, hT, h1], h2⟩
  · rename_i hT
    have hs := offS_own hs
    split at h
    · rename_i hl; exact ⟨_, fun l2 k' e => by simp only [lenK, hT, e _ hs, hl], h⟩
    · cases h
  · rename_i x1 x2 o n el hT
    refine ⟨_, fun l2 k' _ => ?_, h⟩
    cases x1 <;> simp only [lenK, hT]
  · cases h

theorem opK_sep {L : List Nat} {cf : Cfg} {o : Oper} {e : Operand → V} (h : opK cf true o e l k = some r) (hw : isWriter o.op = false) (hs : sepOk L o.op e = true) : EffS L (fun l2 k' => opK cf true o e l2 k') l k r := by
  cases hq : isQuiet o.op with
  | true =>
    obtain ⟨x, l', h1, h2, h3⟩ := opK_eff h
    obtain rfl := h1 hw
    exact ⟨x, fun l2 k' _ => by show opK cf true o e l2 k' = _; rw [h2 l2 k' (.inr hq), hw]; rfl, h3⟩
  | false =>
    have go : ∀ {F : {S : Type} → Loc → (V → Loc → List Nat → Option S) → Option S}, EffS L F l k r → (∀ {S : Type} (l2 : Loc) (k' : V → Loc → List Nat → Option S), opK cf true o e l2 k' = F l2 k') → EffS L (fun l2 k' => opK cf true o e l2 k') l k r := by
      intro F hF he
      obtain ⟨x, h1, h2⟩ := hF
      exact ⟨x, fun l2 k' hl => by show opK cf true o e l2 k' = _; rw [he]; exact h1 l2 k' hl, h2⟩
    unfold opK at h
    split at h
    case h_8 t a ho => rw [ho] at hs; exact go (loadK_sep h hs) fun l2 k' => by simp only [opK, ho]
    case h_9 t a x ho => simp [isWriter, ho] at hw
    case h_10 x ho => rw [ho] at hs; exact go (nilK_sep h hs) fun l2 k' => by simp only [opK, ho]
    case h_16 t x lo hi mx ho =>
      rw [ho] at hs
      split at h
      · cases h
      · exact go (sliceK_sep h hs) fun l2 k' => by simp only [opK, ho]
    case h_17 T x f ho => rw [ho] at hs; exact go (fieldAddrK_sep h hs) fun l2 k' => by simp only [opK, ho]
    case h_19 T x i ho => rw [ho] at hs; exact go (indexAddrK_sep h hs) fun l2 k' => by simp only [opK, ho]
    case h_22 c ho =>
      split at h
      case h_1 hc =>
        split at h
        case h_2 => cases h
        case h_1 x T ha hT =>
          rw [ho] at hs
          have hx : offS L (e x) = true := List.all_eq_true.1 hs x (by simp [ha])
          exact go (lenK_sep h hx) fun l2 k' => by simp only [opK, ho, hc, ha, hT]
      all_goals first | (cases h; done) | (rename_i hc; simp [isQuiet, ho, hc] at hq; done) | (rename_i hc _; simp [isQuiet, ho, hc] at hq; done) | (simp_all [isQuiet]; done)
    all_goals (rename_i ho; simp [isQuiet, ho] at hq)

/-- A call that is handed these objects alone changes no other. -/
theorem marsh_off {L : List Nat} : ∀ {hd : List Nat} {xs : List V} {l : Loc} {ss : List Nat} {k : List V → Loc → List Nat → Option R} (_ : marsh P false hd xs l ss k = some r) (_ : xs.all (argOk L) = true),
    ∃ ys ss', k ys l ss' = some r ∧ (∀ s ∈ ss', s ∈ ss ∨ L.any (Nat.beq s) = true)
  | hd, [], l, ss, k, h, _ => ⟨[], ss, by simpa [marsh] using h, fun s hs => .inl hs⟩
  | hd, x :: xs, l, ss, k, h, ha => by
    rw [List.all_cons, Bool.and_eq_true] at ha
    cases x with
    | c c =>
      obtain ⟨ys, ss', h1, h2⟩ := marsh_off (show marsh P false hd.tail xs l ss (fun ys l' ss' => k (.c (nrm1 hd c) :: ys) l' ss') = some r from h) ha.2
      exact ⟨_, ss', h1, h2⟩
    | agg cs =>
      obtain ⟨ys, ss', h1, h2⟩ := marsh_off (show marsh P false hd.tail xs l ss (fun ys l' ss' => k (.agg cs :: ys) l' ss') = some r from h) ha.2
      exact ⟨_, ss', h1, h2⟩
    | ptr s off =>
      have hL : L.any (Nat.beq s) = true := ha.1
      unfold marsh at h
      simp only at h
      split at h
      · rename_i i hi
        obtain ⟨ys, ss', h1, h2⟩ := marsh_off h ha.2
        exact ⟨_, ss', h1, h2⟩
      · rename_i hi
        obtain ⟨ys, ss', h1, h2⟩ := marsh_off h ha.2
        refine ⟨_, ss', h1, fun s' hs' => ?_⟩
        rcases h2 s' hs' with h3 | h3
        · rcases List.mem_append.1 h3 with h3 | h3
          · exact .inl h3
          · simp at h3; subst h3; exact .inr hL
        · exact .inr h3
    | _ => cases ha.1

theorem callK_off {cf : Cfg} {L : List Nat} {hd : List Nat} {f : FuncId} {xs : List V} {ty : TypeId} {dst : Option Nat} {l : Loc} {x : V} {l' : Loc} {ks : List Nat}
    (h : callK cf false hd [] f xs ty dst l (fun x l ks => some (x, l, ks)) = some (x, l', ks)) (ha : xs.all (argOk L) = true) : ∀ s, L.any (Nat.beq s) = false → l' s = l s := by
  unfold callK at h
  obtain ⟨ys, ss, h1, h2⟩ := marsh_off h ha
  obtain ⟨_, h3⟩ := need_some h1
  obtain ⟨out, _, h4⟩ := Option.bind_eq_some_iff.1 h3
  have key : ∀ {ss : List Nat} {os : List Obj} {lv : Loc} {k : List Obj → Loc → Option (V × Loc × List Nat)}, backK cf.P (cf.fzb f) ss os lv k = some (x, l', ks) → ∃ rest l2, k rest l2 = some (x, l', ks) ∧ ∀ s, s ∉ ss → l2 s = lv s := by
    intro ss
    induction ss with
    | nil => intro os lv k h; exact ⟨os, lv, h, fun _ _ => rfl⟩
    | cons s ss ih =>
      intro os lv k h
      have fin : ∀ (os' : List Obj) (o' : Obj), backK cf.P (cf.fzb f) ss os' (lv.put s o') k = some (x, l', ks) → ∃ rest l2, k rest l2 = some (x, l', ks) ∧ ∀ a, a ∉ s :: ss → l2 a = lv a := by
        intro os' o' h'
        obtain ⟨rest, l2, q1, q2⟩ := ih h'
        refine ⟨rest, l2, q1, fun a ha => ?_⟩
        have ha' : a ≠ s ∧ a ∉ ss := by simpa using ha
        rw [q2 a ha'.2, put_other lv _ ha'.1]
      unfold backK at h
      split at h
      case h_3 => cases h
      case h_1 t fz cs hl =>
        obtain ⟨o, os', rfl, h1⟩ := uncO_eq h
        obtain ⟨cs', rfl, h2⟩ := rO_eq h1
        split at h2
        · obtain ⟨_, h3⟩ := need_some h2
          exact fin _ _ (getLfs_eq h3).2
        · exact fin _ _ (need_some h2).2
      case h_2 t fz cs hl =>
        obtain ⟨o, os', rfl, h1⟩ := uncO_eq h
        split at h1
        · obtain ⟨cs', rfl, h2⟩ := rS_eq h1
          exact fin _ _ (need_some h2).2
        · obtain ⟨fz', cs', rfl, hle, h2⟩ := rF_eq h1
          exact fin _ _ (need_some h2).2
  obtain ⟨rest, l2, h5, h6⟩ := key h4
  intro s hs
  have hns : s ∉ ss := fun hm => by
    rcases h2 s hm with e | e
    · cases e
    · rw [hs] at e; cases e
  simp only at h5
  obtain ⟨v, h7, h8⟩ := retK_nat h5
  injection h8 with h8
  injection h8 with _ h8
  injection h8 with h8 _
  rw [← h8]
  unfold thaw
  split
  · rfl
  · exact h6 s hns

theorem opK_off {cf : Cfg} {o : Oper} {e : Operand → V} {l : Loc} {x : V} {l' : Loc} {ks : List Nat} (h : opK cf false o e l (fun x l ks => some (x, l, ks)) = some (x, l', ks)) (ha : loudOk cf o.op e = true) : ∀ s, cf.lh.any (Nat.beq s) = false → l' s = l s := by
  unfold loudOk at ha
  split at ha
  case h_2 => cases ha
  case h_1 c ho =>
    split at ha
    case h_2 => cases ha
    case h_1 f hc =>
      rw [Bool.and_eq_true] at ha
      obtain ⟨hx, ha⟩ := ha
      have hx : cf.xo f = [] := by cases hq : cf.xo f with
        | nil => rfl
        | cons a b => rw [hq] at hx; cases hx
      simp only [opK, ho, hc, hx] at h
      exact callK_off h (by rw [List.all_map]; exact ha)
end

end Go.PM
/- The pure machine: regions that draw their order, and those that do not. -/
namespace Go.PM
open Go

variable {P : Program}

theorem writer_loud' {o : Op} (h : isWriter o = true) : isQuiet o = false := by cases o <;> simp_all [isWriter, isQuiet]
theorem writer_loud {cf : Cfg} {o : Oper} (h : cf.wr o = true) : cf.qu o = false := by
  unfold Cfg.wr at h
  unfold Cfg.qu
  cases hl : cf.loudO o with
  | true => simp
  | false => rw [hl, Bool.or_false] at h; rw [writer_loud' h]; rfl

section
variable {cf : Cfg} {ops : Array Oper} {A : Fr} {Q : Exit → Act → World → Prop}

theorem after_nil (σ : St) (d : Option Nat) (x : V) (l : Loc) : σ.after d x l [] = σ.put d x l := by cases d <;> rfl

theorem sepK_congr {o : Oper} {strict : Bool} {e e' : Operand → V} (h : ∀ y ∈ o.op.operands, e y = e' y) : sepK cf strict o e = sepK cf strict o e' := by
  cases strict with
  | false => rfl
  | true =>
  obtain ⟨dst, op, type, pos, after, guard⟩ := o
  simp only [sepK]
  have e1 : loudOk cf op e = loudOk cf op e' := by
    cases op <;> simp only [loudOk]
    rename_i c
    have : ∀ a ∈ c.args.toList, e a = e' a := fun a ha => h a (by simp [Op.operands, Call.operands]; exact .inr (by simpa using ha))
    split
    · congr 1
      rw [Bool.eq_iff_iff, List.all_eq_true, List.all_eq_true]
      exact ⟨fun q a ha => by rw [← this a ha]; exact q a ha, fun q a ha => by rw [this a ha]; exact q a ha⟩
    · rfl
  have e2 : sepOk cf.lh op e = sepOk cf.lh op e' := by
    cases op <;> simp only [sepOk] <;> simp only [Op.operands] at h
    case call c =>
      have : ∀ a ∈ c.args.toList, e a = e' a := fun a ha => h a (by simp [Call.operands]; exact .inr (by simpa using ha))
      rw [Bool.eq_iff_iff, List.all_eq_true, List.all_eq_true]
      exact ⟨fun q a ha => by rw [← this a ha]; exact q a ha, fun q a ha => by rw [this a ha]; exact q a ha⟩
    all_goals (first | rfl | (rw [h _ (by simp)]; done))
  rw [e1, e2]

theorem gop_eff {o : Oper} {σ σ1 : St} (h : gop cf true (fun j => (ops[j]?).bind (·.dst)) o σ = some σ1) :
    ∃ x l', σ1 = σ.put o.dst x l' ∧ (cf.wr o = false → l' = σ.loc) ∧ (cf.loudO o = true → ∀ s, cf.lh.any (Nat.beq s) = false → l' s = σ.loc s) ∧ ∀ σ2 : St, (∀ t ∈ o.looksAt ops, σ2.get t = σ.get t) → (σ2.loc = σ.loc ∨ cf.qu o = true ∨ (cf.wr o = false ∧ ∀ s, cf.lh.any (Nat.beq s) = false → σ2.loc s = σ.loc s)) →
      gop cf true (fun j => (ops[j]?).bind (·.dst)) o σ2 = some (σ2.put o.dst x (bif cf.wr o then l' else σ2.loc)) := by
  have run : opK cf (cf.str true o) o (σ.ev cf.glob) σ.loc (fun x l ks => need (okKz true ks && sepK cf true o (σ.ev cf.glob)) (some (σ.after o.dst x l ks))) = some σ1 → ∃ x l', σ1 = σ.put o.dst x l' ∧ (cf.wr o = false → l' = σ.loc) ∧ (cf.loudO o = true → ∀ s, cf.lh.any (Nat.beq s) = false → l' s = σ.loc s) ∧ ∀ σ2 : St, (∀ t ∈ o.looksAt ops, σ2.get t = σ.get t) → (σ2.loc = σ.loc ∨ cf.qu o = true ∨ (cf.wr o = false ∧ ∀ s, cf.lh.any (Nat.beq s) = false → σ2.loc s = σ.loc s)) →
      opK cf (cf.str true o) o (σ2.ev cf.glob) σ2.loc (fun x l ks => need (okKz true ks && sepK cf true o (σ2.ev cf.glob)) (some (σ2.after o.dst x l ks))) = some (σ2.put o.dst x (bif cf.wr o then l' else σ2.loc)) := by
    intro hk
    have same : ∀ σ2 : St, (∀ t ∈ o.looksAt ops, σ2.get t = σ.get t) → ∀ y ∈ o.op.operands, σ2.ev cf.glob y = σ.ev cf.glob y := by
      intro σ2 ht y hy
      cases y with
      | tmp t => exact ht t (List.mem_append_left _ (List.mem_filterMap.2 ⟨.tmp t, by simpa using hy, rfl⟩))
      | _ => rfl
    have sepc : ∀ σ2 : St, (∀ t ∈ o.looksAt ops, σ2.get t = σ.get t) → sepK cf true o (σ2.ev cf.glob) = sepK cf true o (σ.ev cf.glob) := fun σ2 ht => sepK_congr (same σ2 ht)
    cases hl : cf.loudO o with
    | false =>
      have e1 : cf.str true o = true := by simp [Cfg.str, hl]
      have e2 : cf.wr o = isWriter o.op := by simp [Cfg.wr, hl]
      have e3 : cf.qu o = isQuiet o.op := by simp [Cfg.qu, hl]
      have e4 : ∀ e, sepK cf true o e = sepOk cf.lh o.op e := fun e => by simp [sepK, hl]
      rw [e1] at hk ⊢
      rw [e2, e3]
      obtain ⟨x, l', h1, h2, h3⟩ := opK_eff hk
      obtain ⟨h0, h3⟩ := need_some h3
      have h0 := (Bool.and_eq_true_iff.1 h0).2
      injection h3 with h3
      refine ⟨x, l', by rw [← h3, after_nil], h1, fun h => (by cases h), fun σ2 ht hl2 => ?_⟩
      have fin : ∀ (l3 : Loc), need (okKz true [] && sepK cf true o (σ2.ev cf.glob)) (some (σ2.after o.dst x l3 [])) = some (σ2.put o.dst x l3) := fun l3 => by
        rw [sepc σ2 ht, h0, after_nil]; rfl
      rw [opK_congr (e' := σ.ev cf.glob) (same σ2 ht)]
      rcases hl2 with hl2 | hl2 | ⟨hw, hl2⟩
      · rw [h2 σ2.loc _ (.inl hl2)]; exact fin _
      · rw [h2 σ2.loc _ (.inr hl2)]; exact fin _
      · obtain ⟨x', h5, h6⟩ := opK_sep hk hw (by rw [← e4]; exact h0)
        obtain ⟨_, h6⟩ := need_some h6
        injection h6 with h6
        have h1' := h1 hw
        subst h1'
        have h7 := h2 σ.loc (fun x l ks => some (x, l, ks)) (.inl rfl)
        have h8 : opK cf true o (σ.ev cf.glob) σ.loc (fun x l ks => some (x, l, ks)) = some (x', σ.loc, []) := h5 σ.loc (fun x l ks => some (x, l, ks)) (fun _ _ => rfl)
        rw [h7] at h8
        injection h8 with h8
        injection h8 with h8 _
        subst h8
        refine (h5 σ2.loc _ hl2).trans ?_
        rw [hw]; exact fin _
    | true =>
      have e1 : cf.str true o = false := by simp [Cfg.str, hl]
      have e2 : cf.wr o = true := by simp [Cfg.wr, hl]
      have e3 : cf.qu o = false := by simp [Cfg.qu, hl]
      have e4 : ∀ e, sepK cf true o e = loudOk cf o.op e := fun e => by simp [sepK, hl]
      rw [e1] at hk ⊢
      rw [e2, e3]
      obtain ⟨x, l', ks, h1, h2⟩ := opK_nat hk
      obtain ⟨h3, h4⟩ := need_some h2
      have h0 := (Bool.and_eq_true_iff.1 h3).2
      obtain rfl := okKz_nil (Bool.and_eq_true_iff.1 h3).1
      injection h4 with h4
      refine ⟨x, l', by rw [← h4, after_nil], fun h => (by cases h), fun _ => opK_off (h1 _) (by rw [← e4]; exact h0), fun σ2 ht hl => ?_⟩
      rcases hl with hl | hl | hl
      · rw [opK_congr (e' := σ.ev cf.glob) (same σ2 ht), hl]
        refine (h1 _).trans ?_
        show need (okKz true [] && sepK cf true o (σ2.ev cf.glob)) (some (σ2.after o.dst x l' [])) = _
        rw [sepc σ2 ht, h0, after_nil]; rfl
      · cases hl
      · cases hl.1
  have idle : some (σ.after o.dst .un σ.loc []) = some σ1 → ∃ x l', σ1 = σ.put o.dst x l' ∧ (cf.wr o = false → l' = σ.loc) ∧ (cf.loudO o = true → ∀ s, cf.lh.any (Nat.beq s) = false → l' s = σ.loc s) ∧ ∀ σ2 : St, (∀ t ∈ o.looksAt ops, σ2.get t = σ.get t) → (σ2.loc = σ.loc ∨ cf.qu o = true ∨ (cf.wr o = false ∧ ∀ s, cf.lh.any (Nat.beq s) = false → σ2.loc s = σ.loc s)) →
      some (σ2.after o.dst .un σ2.loc []) = some (σ2.put o.dst x (bif cf.wr o then l' else σ2.loc)) := by
    intro hk
    injection hk with hk
    refine ⟨.un, σ.loc, by rw [← hk, after_nil], fun _ => rfl, fun _ _ _ => rfl, fun σ2 _ hl => ?_⟩
    rw [after_nil]
    cases hw : cf.wr o
    · rfl
    · rcases hl with hl | hl | hl
      · rw [hl]; rfl
      · rw [writer_loud hw] at hl; cases hl
      · rw [hw] at hl; cases hl.1
  unfold gop at h
  split at h
  · rename_i hn
    obtain ⟨x, l', h1, h2, h2', h3⟩ := run h
    exact ⟨x, l', h1, h2, h2', fun σ2 ht hl => by simp only [gop, hn]; exact h3 σ2 ht hl⟩
  · rename_i j want hj
    split at h
    · cases h
    · rename_i d hd
      have hin : d ∈ o.looksAt ops := by
        refine List.mem_append_right _ ?_
        rw [hj]
        have hd' : (ops[j]?).bind (·.dst) = some d := hd
        simp only [hd']; simp
      split at h
      · rename_i q hq
        cases hb : (q == want)
        · rw [hb] at h
          obtain ⟨x, l', h1, h2, h2', h3⟩ := idle h
          exact ⟨x, l', h1, h2, h2', fun σ2 ht hl => by simp only [gop, hj, hd, ht d hin, hq, hb, cond_false]; exact h3 σ2 ht hl⟩
        · rw [hb] at h
          obtain ⟨x, l', h1, h2, h2', h3⟩ := run h
          exact ⟨x, l', h1, h2, h2', fun σ2 ht hl => by simp only [gop, hj, hd, ht d hin, hq, hb, cond_true]; exact h3 σ2 ht hl⟩
      · rename_i hq
        obtain ⟨x, l', h1, h2, h2', h3⟩ := idle h
        exact ⟨x, l', h1, h2, h2', fun σ2 ht hl => by simp only [gop, hj, hd, ht d hin, hq]; exact h3 σ2 ht hl⟩
      · cases h

theorem get_put_ne {σ : St} {d : Option Nat} {x : V} {l : Loc} {t : Nat} (h : ∀ d', d = some d' → d' ≠ t) : (σ.put d x l).get t = σ.get t := by
  cases d with
  | none => rfl
  | some d =>
    have := h d rfl
    exact Sl.set_ne this

theorem put_comm {σ : St} {d d' : Option Nat} {x x' : V} {l l' l1 l2 : Loc} (h : ∀ e, d = some e → d' ≠ some e) (hl : l' = l2) : (σ.put d x l).put d' x' l' = (σ.put d' x' l1).put d x l2 := by
  cases d with
  | none => cases d' <;> simp [St.put, hl]
  | some e =>
    cases d' with
    | none => simp [St.put, hl]
    | some e' =>
      have hne : e ≠ e' := fun he => h e rfl (he ▸ rfl)
      simp only [St.put, hl]
      rw [Sl.set_comm _ _ _ hne]

theorem loc_put (σ : St) (d : Option Nat) (x : V) (l : Loc) : (σ.put d x l).loc = l := by cases d <;> rfl

theorem gop_swap {x y : Oper} (hi : indep cf ops x y = true) {σ σ1 σ2 : St} (h1 : gop cf true (fun j => (ops[j]?).bind (·.dst)) x σ = some σ1) (h2 : gop cf true (fun j => (ops[j]?).bind (·.dst)) y σ1 = some σ2) :
    ∃ τ, gop cf true (fun j => (ops[j]?).bind (·.dst)) y σ = some τ ∧ gop cf true (fun j => (ops[j]?).bind (·.dst)) x τ = some σ2 := by
  unfold indep at hi
  simp only [Bool.and_eq_true, Bool.or_eq_true, Bool.not_eq_true'] at hi
  obtain ⟨hap, hq⟩ := hi
  obtain ⟨a1, a2, a3⟩ := Oper.apart_spec hap
  obtain ⟨vx, lx, e1, wx, ox, fx⟩ := gop_eff h1
  obtain ⟨vy, ly, e2, wy, oy, fy⟩ := gop_eff h2
  have l1 : σ1.loc = lx := by rw [e1, loc_put]
  have qx : cf.qu x = true → cf.wr x = false := fun h => by
    cases hw : cf.wr x
    · rfl
    · rw [writer_loud hw] at h; cases h
  have qy : cf.qu y = true → cf.wr y = false := fun h => by
    cases hw : cf.wr y
    · rfl
    · rw [writer_loud hw] at h; cases h
  have g1 := fy σ (fun t ht => by rw [e1, get_put_ne fun d hd e => a1 d hd (e ▸ ht)]) (by
    rw [l1]
    rcases hq with (((hq | hq) | hq) | hq) | hq
    · exact .inl (wx (qx hq)).symm
    · exact .inr (.inl hq)
    · exact .inl (wx hq.1).symm
    · exact .inr (.inr ⟨hq.2, fun s hs => (ox hq.1 s hs).symm⟩)
    · exact .inl (wx hq.2).symm)
  refine ⟨_, g1, ?_⟩
  have g2 := fx (σ.put y.dst vy (bif cf.wr y then ly else σ.loc)) (fun t ht => get_put_ne fun d hd e => a3 d hd (e ▸ ht)) (by
    rw [loc_put]
    rcases hq with (((hq | hq) | hq) | hq) | hq
    · exact .inr (.inl hq)
    · rw [qy hq]; exact .inl rfl
    · rw [hq.2]; exact .inl rfl
    · rw [hq.2]; exact .inl rfl
    · refine .inr (.inr ⟨hq.2, fun s hs => ?_⟩)
      have hwy : cf.wr y = true := by simp [Cfg.wr, hq.1]
      rw [hwy]
      have := oy hq.1 s hs
      rw [l1, wx hq.2] at this
      exact this)
  rw [g2, e2, e1, put_comm (l1 := (bif cf.wr y then ly else σ.loc)) (l2 := ly) (fun d hd => a2 d hd) rfl]
  congr 2
  rw [loc_put]
  have both : cf.wr x = true → cf.wr y = true → False := fun h h' => by
    rcases hq with (((hq | hq) | hq) | hq) | hq
    · rw [qx hq] at h; cases h
    · rw [qy hq] at h'; cases h'
    · rw [hq.1] at h; cases h
    · rw [hq.2] at h'; cases h'
    · rw [hq.2] at h; cases h
  cases hw : cf.wr x with
  | true =>
    cases hw' : cf.wr y with
    | true => exact (both hw hw').elim
    | false => rw [wy hw', l1]; rfl
  | false =>
    cases hw' : cf.wr y with
    | true => rfl
    | false => rw [wy hw', l1, wx hw]; rfl

/-- Operations by their numbers. -/
noncomputable def runI (cf : Cfg) (ops : Array Oper) : List Nat → St → Option St
  | [], σ => some σ
  | i :: is, σ => match ops[i]? with
    | none => none
    | some o => (gop cf true (fun j => (ops[j]?).bind (·.dst)) o σ).bind (runI cf ops is)

theorem runI_list (l : List Oper) : ∀ k, (∀ j, l[j]? = ops[k + j]?) → ∀ σ, runI cf ops (List.range' k l.length) σ = runG cf true (fun j => (ops[j]?).bind (·.dst)) l σ := by
  induction l with
  | nil => intro k _ σ; simp [runI, runG]
  | cons o l ih =>
    intro k h σ
    have h0 : ops[k]? = some o := by simpa using (h 0).symm
    have ih' := ih (k + 1) (fun j => by have := h (j + 1); simpa [Nat.add_assoc, Nat.add_comm 1 j] using this)
    simp only [List.length_cons, List.range'_succ, runI, h0, runG]
    cases gop cf true (fun j => (ops[j]?).bind (·.dst)) o σ with
    | none => rfl
    | some σ1 => exact ih' σ1

theorem runI_front {i : Nat} {oi : Oper} (hi : ops[i]? = some oi) {post : List Nat} {σ' : St} : ∀ (pre : List Nat) {σ : St}, (∀ x ∈ pre, ∀ ox, ops[x]? = some ox → indep cf ops ox oi = true) → runI cf ops (pre ++ i :: post) σ = some σ' →
    ∃ σ1, gop cf true (fun j => (ops[j]?).bind (·.dst)) oi σ = some σ1 ∧ runI cf ops (pre ++ post) σ1 = some σ'
  | [], σ, _, h => by
    simp only [List.nil_append, runI, hi] at h
    exact Option.bind_eq_some_iff.1 h
  | x :: pre, σ, hx, h => by
    simp only [List.cons_append, runI] at h
    split at h
    · cases h
    · rename_i ox hox
      obtain ⟨σx, h1, h2⟩ := Option.bind_eq_some_iff.1 h
      obtain ⟨σ1, h3, h4⟩ := runI_front hi pre (fun x hx' => hx x (by simp [hx'])) h2
      obtain ⟨τ, h5, h6⟩ := gop_swap (hx x (by simp) ox hox) h1 h3
      exact ⟨τ, h5, by simp only [List.cons_append, runI, hox, h6, Option.bind_some]; exact h4⟩

theorem testBit_anc {acc : List Nat} {o : Oper} {x : Nat} (h : (ancOf acc o).testBit x = true) : ∃ e ∈ o.after, Region.binds .any e = true ∧ (x = e.on ∨ (acc.getD e.on 0).testBit x = true) := by
  unfold ancOf at h
  have : ∀ es : List Edge, (es.foldr (fun e s => bif Region.binds .any e then (2 ^ e.on ||| acc.getD e.on 0) ||| s else s) 0).testBit x = true → ∃ e ∈ es, Region.binds .any e = true ∧ (x = e.on ∨ (acc.getD e.on 0).testBit x = true) := by
    intro es
    induction es with
    | nil => intro h; simp at h
    | cons e es ih =>
      intro h
      simp only [List.foldr_cons] at h
      cases hb : Region.binds .any e
      · rw [hb] at h
        obtain ⟨e', h1, h2⟩ := ih h
        exact ⟨e', by simp [h1], h2⟩
      · rw [hb] at h
        simp only [cond_true, Nat.testBit_or, Bool.or_eq_true, Nat.testBit_two_pow, decide_eq_true_eq] at h
        rcases h with (h | h) | h
        · exact ⟨e, by simp, hb, .inl h.symm⟩
        · exact ⟨e, by simp, hb, .inr h⟩
        · obtain ⟨e', h1, h2⟩ := ih h
          exact ⟨e', by simp [h1], h2⟩
  obtain ⟨e, h1, h2⟩ := this _ h
  exact ⟨e, by simpa using h1, h2⟩

/-- Forerunners of what is ready are listed. -/
theorem anc_listed {L : Nat → Prop} (hL : ∀ k o, ops[k]? = some o → L k → ∀ e ∈ o.after, Region.binds .any e = true → L e.on) : ∀ (os : List Oper) (acc : List Nat), (∀ j, os[j]? = ops[acc.length + j]?) →
    (∀ k o, ops[k]? = some o → k < acc.length → (∀ e ∈ o.after, Region.binds .any e = true → L e.on) → ∀ x, (acc.getD k 0).testBit x = true → L x) →
    ∀ k o, ops[k]? = some o → k < (ancsGo os acc).length → (∀ e ∈ o.after, Region.binds .any e = true → L e.on) → ∀ x, ((ancsGo os acc).getD k 0).testBit x = true → L x
  | [], acc, _, h => h
  | o :: os, acc, ho, h => by
    refine anc_listed hL os (acc ++ [ancOf acc o]) (fun j => by have := ho (j + 1); simpa [Nat.add_assoc, Nat.add_comm 1 j] using this) ?_
    intro k ok hk hlt hall x hx
    by_cases hk' : k < acc.length
    · have e1 : (acc ++ [ancOf acc o]).getD k 0 = acc.getD k 0 := by simp only [List.getD, List.getElem?_append_left hk']
      rw [e1] at hx
      exact h k ok hk hk' hall x hx
    · have hk'' : k = acc.length := by simp at hlt; omega
      subst hk''
      have h0 : ops[acc.length]? = some o := by simpa using (ho 0).symm
      rw [hk] at h0
      injection h0 with h0
      subst h0
      have e1 : (acc ++ [ancOf acc ok]).getD acc.length 0 = ancOf acc ok := by simp [List.getD]
      rw [e1] at hx
      obtain ⟨e, he, hb, hx⟩ := testBit_anc hx
      have hle := hall e he hb
      rcases hx with rfl | hx
      · exact hle
      · by_cases hlt' : e.on < acc.length
        · have hso : ∃ oe, ops[e.on]? = some oe := by
            have : acc.length < ops.size := (Array.getElem?_eq_some_iff.1 hk).1
            exact ⟨_, Array.getElem?_eq_getElem (by omega)⟩
          obtain ⟨oe, hoe⟩ := hso
          exact h e.on oe hoe hlt' (hL e.on oe hoe hle) x hx
        · simp [List.getD, List.getElem?_eq_none (Nat.le_of_not_lt hlt')] at hx

theorem backOk_spec : ∀ (os : List Oper) (p : Nat), backOk os p = true → ∀ j o, os[j]? = some o → ∀ e ∈ o.after, Region.binds .any e = true → e.on < p + j
  | [], p, _, j, o, hj => by simp at hj
  | o :: os, p, h, j, oj, hj => by
    simp only [backOk, Bool.and_eq_true, List.all_eq_true] at h
    cases j with
    | zero =>
      simp at hj
      subst hj
      intro e he hb
      have := h.1 e (by simpa using he)
      simp only [hb, Bool.not_true, Bool.false_or] at this
      have := Nat.le_of_ble_eq_true this
      omega
    | succ j =>
      intro e he hb
      have := backOk_spec os (p + 1) h.2 j oj (by simpa using hj) e he hb
      omega

/-- What an order's check says. -/
theorem orderOk_spec (h : orderOk cf ops = true) : (∀ j o, ops[j]? = some o → ∀ e ∈ o.after, Region.binds .any e = true → e.on < j) ∧
    ∀ (j i : Nat) oi oj, ops[i]? = some oi → ops[j]? = some oj → i < j → ((ancsGo ops.toList []).getD j 0).testBit i = true ∨ indep cf ops oi oj = true := by
  unfold orderOk at h
  simp only [Bool.and_eq_true, List.all_eq_true, List.mem_range] at h
  refine ⟨fun j o hj e he hb => ?_, fun j i oi oj hi hj hlt => ?_⟩
  · have := backOk_spec ops.toList 0 h.1 j o (by simpa using hj) e he hb
    omega
  · have := h.2 j (Array.getElem?_eq_some_iff.1 hj).1 i hlt
    simp only [hi, hj, Bool.or_eq_true] at this
    exact this

theorem ancsGo_length : ∀ (os : List Oper) (acc : List Nat), (ancsGo os acc).length = acc.length + os.length
  | [], acc => rfl
  | o :: os, acc => by simp only [ancsGo]; rw [ancsGo_length os]; simp; omega

/-- What of a region's variables is yet to be made. -/
def pendOf (ops : Array Oper) (rest : List Nat) : Nat → Prop := fun s => ∃ i ∈ rest, ∃ o, ops[i]? = some o ∧ allocDst o = some s

structure Facts (A : Fr) (ops : Array Oper) : Prop where
  pt : ∀ (i : Nat) (o : Oper) (t : TypeId) (d : Nat), ops[i]? = some o → o.op = .alloc t → o.dst = some d → A.pt d = t
  gd : ∀ (i : Nat) (o : Oper), ops[i]? = some o → isAlloc o = true → o.guard = none
  one : ∀ (i j : Nat) (o o' : Oper) (d : Nat), ops[i]? = some o → ops[j]? = some o' → allocDst o = some d → allocDst o' = some d → i = j
  tm : ∀ (i : Nat) (o : Oper) (d : Nat), ops[i]? = some o → o.dst = some d → A.tm d = none
  other : ∀ (i j : Nat) (o o' : Oper) (d : Nat), ops[i]? = some o → ops[j]? = some o' → isAlloc o = false → o.dst = some d → allocDst o' ≠ some d

theorem pend_step {i : Nat} {o : Oper} (F : Facts A ops) (hi : ops[i]? = some o) {rest rest' : List Nat} (hr : ∀ j, j ∈ rest' ↔ j ∈ rest ∧ j ≠ i) : pendAfter (pendOf ops rest) o = pendOf ops rest' := by
  funext s
  refine propext ⟨fun ⟨⟨j, hj, oj, hoj, hd⟩, hn⟩ => ?_, fun ⟨j, hj, oj, hoj, hd⟩ => ⟨⟨j, ((hr j).1 hj).1, oj, hoj, hd⟩, fun ⟨ha, hd'⟩ => ?_⟩⟩
  · refine ⟨j, (hr j).2 ⟨hj, fun e => hn ?_⟩, oj, hoj, hd⟩
    subst e
    rw [hi] at hoj
    injection hoj with hoj
    subst hoj
    unfold allocDst at hd
    cases ha : isAlloc o
    · rw [ha] at hd; cases hd
    · rw [ha] at hd; exact ⟨rfl, hd⟩
  · have : allocDst o = some s := by simp [allocDst, ha, hd']
    exact ((hr j).1 hj).2 (F.one j i oj o s hoj hi hd this)

theorem op_at {ro : Option Nat} (hc : CfgOk P cf A) (F : Facts A ops) {strict : Bool} {i : Nat} {o : Oper} (hi : ops[i]? = some o) {rest rest' : List Nat} (hin : i ∈ rest) (hr : ∀ j, j ∈ rest' ↔ j ∈ rest ∧ j ≠ i) {E : Env} {σ σ1 : St} {a : Act}
    (h : Rel P A E σ (pendOf ops rest) a) (hg : gop cf strict (fun j => (ops[j]?).bind (·.dst)) o σ = some σ1) {K : Act → World → Prop} (hK : ∀ E' a', Rel P A E' σ1 (pendOf ops rest') a' → K a' E'.w) :
    doOp ro P o (Region.wanted o (yielded ops a.tmps)) a E.w K Q := by
  refine gop_step hc (F.gd i o hi) (fun t d ho hd => F.pt i o t d hi ho hd) h (fun d hd => F.tm i o d hi hd) (fun ha d hd => ⟨i, hin, o, hi, by simp [allocDst, ha, hd]⟩) (fun hna d hd hp => ?_) hg (fun E' a' h' => hK E' a' (by rw [← pend_step F hi hr]; exact h'))
  obtain ⟨j, _, oj, hoj, hd'⟩ := hp
  exact F.other i j o oj d hi hoj hna hd hd'

theorem pendOf_nil : pendOf ops [] = fun _ => False := by funext s; simp [pendOf]

/-- A region as it stands. -/
theorem run_plain {ro : Option Nat} (hc : CfgOk P cf A) (F : Facts A ops) {σ' : St} (hQ : ∀ E' a', Rel P A E' σ' (fun _ => False) a' → Q .normal a' E'.w) : ∀ (os : List Oper) (p : Nat) (_ : ∀ j, os[j]? = ops[p + j]?) {E : Env} {σ : St} {a : Act} (_ : Rel P A E σ (pendOf ops (List.range' p os.length)) a)
    (_ : runG cf false (fun j => (ops[j]?).bind (·.dst)) os σ = some σ'), wpListIn (FW ro) 0 P ops Q os a E.w
  | [], p, _, E, σ, a, h, hk => by
    injection hk with hk
    subst hk
    refine hQ E a ?_
    have : pendOf ops (List.range' p ([] : List Oper).length) = fun _ => False := pendOf_nil
    rw [this] at h; exact h
  | o :: os, p, ho, E, σ, a, h, hk => by
    have h0 : ops[p]? = some o := by simpa using (ho 0).symm
    simp only [runG] at hk
    obtain ⟨σ1, h1, h2⟩ := Option.bind_eq_some_iff.1 hk
    refine wpListIn_step fun K hK => ?_
    refine op_at hc F h0 (rest' := List.range' (p + 1) os.length) (by simp) (fun j => ?_) h h1 fun E' a' h' => hK _ _ ?_
    · simp only [List.mem_range'_1, List.length_cons]; omega
    · exact run_plain hc F hQ os (p + 1) (fun j => by have := ho (j + 1); simpa [Nat.add_assoc, Nat.add_comm 1 j] using this) h' h2

/-- ... and in any order that its edges allow. -/
theorem run_any {ro : Option Nat} (hc : CfgOk P cf A) (F : Facts A ops) (hord : orderOk cf ops = true) {σ' : St} (hQ : ∀ E' a', Rel P A E' σ' (fun _ => False) a' → Q .normal a' E'.w) : ∀ (fuel : Nat) (listed : Array Bool) (rest : List Nat) {E : Env} {σ : St} {a : Act}
    (_ : listed.size = ops.size) (_ : rest.length = fuel) (_ : rest.Pairwise (· < ·)) (_ : ∀ j, j ∈ rest ↔ j < ops.size ∧ listed.getD j true = false)
    (_ : ∀ k o, ops[k]? = some o → listed.getD k false = true → ∀ e ∈ o.after, Region.binds .any e = true → listed.getD e.on false = true)
    (_ : Rel P A E σ (pendOf ops rest) a) (_ : runI cf ops rest σ = some σ'), wpAnyIn (FW ro) 0 P .any ops Q fuel listed a E.w
  | 0, listed, rest, E, σ, a, hs, hl, hp, hm, hcl, h, hk => by
    have : rest = [] := List.length_eq_zero_iff.1 hl
    subst this
    injection hk with hk
    subst hk
    refine ⟨?_, hQ E a (by rw [pendOf_nil] at h; exact h)⟩
    rw [List.eq_nil_iff_forall_not_mem]
    intro i hi
    obtain ⟨h0, o, ho, _⟩ := mem_ready.1 hi
    have := (hm i).2 ⟨(Array.getElem?_eq_some_iff.1 ho).1, h0⟩
    simp at this
  | fuel + 1, listed, rest, E, σ, a, hs, hl, hp, hm, hcl, h, hk => by
    obtain ⟨hback, hpair⟩ := orderOk_spec hord
    have hgd : ∀ j, j < ops.size → (listed.getD j true = false ↔ listed.getD j false = false) := fun j hj => by
      have : j < listed.size := by rw [hs]; exact hj
      simp [this]
    refine ⟨fun hnil => ?_, fun i hi => ?_⟩
    · exfalso
      cases rest with
      | nil => simp at hl
      | cons j rest' =>
        obtain ⟨hj1, hj2⟩ := (hm j).1 (by simp)
        have : j ∈ Region.ready .any ops listed := by
          refine mem_ready.2 ⟨hj2, ops[j], Array.getElem?_eq_getElem hj1, fun e he hb => ?_⟩
          have hlt := hback j _ (Array.getElem?_eq_getElem hj1) e he hb
          cases hc' : listed.getD e.on false with
          | true => rfl
          | false =>
            have h1 := (hm e.on).2 ⟨by omega, (hgd _ (by omega)).2 hc'⟩
            rcases List.mem_cons.1 h1 with h1 | h1
            · omega
            · have := (List.pairwise_cons.1 hp).1 _ h1
              omega
        rw [hnil] at this
        cases this
    · obtain ⟨hi0, oi, hoi, hall⟩ := mem_ready.1 hi
      have hin : i ∈ rest := (hm i).2 ⟨(Array.getElem?_eq_some_iff.1 hoi).1, hi0⟩
      obtain ⟨pre, post, rfl⟩ := List.append_of_mem hin
      have hpre : ∀ x ∈ pre, x < i := fun x hx => by
        have := (List.pairwise_append.1 hp).2.2 x hx i (by simp)
        exact this
      have hpost : ∀ x ∈ post, i < x := fun x hx => by
        have := (List.pairwise_append.1 hp).2.1
        exact (List.pairwise_cons.1 this).1 x hx
      have hsz : i < listed.size := by rw [hs]; exact (Array.getElem?_eq_some_iff.1 hoi).1
      obtain ⟨σ1, g1, g2⟩ := runI_front hoi pre (fun x hx ox hox => by
        rcases hpair i x ox oi hox hoi (hpre x hx) with hb | hb
        · exfalso
          have hL := anc_listed (ops := ops) (L := fun k => listed.getD k false = true) hcl ops.toList [] (fun j => by simp) (fun k o _ hk => by simp at hk) i oi hoi (by rw [ancsGo_length]; simp; exact (Array.getElem?_eq_some_iff.1 hoi).1) hall x hb
          have hx2 := ((hm x).1 (by simp [hx])).2
          rw [(hgd x (Array.getElem?_eq_some_iff.1 hox).1).1 hx2] at hL
          cases hL
        · exact hb) hk
      have hmem : ∀ j, j ∈ pre ++ post ↔ j ∈ pre ++ i :: post ∧ j ≠ i := fun j => by
        simp only [List.mem_append, List.mem_cons]
        constructor
        · rintro (hj | hj)
          · exact ⟨.inl hj, by have := hpre j hj; omega⟩
          · exact ⟨.inr (.inr hj), by have := hpost j hj; omega⟩
        · rintro ⟨hj | hj | hj, hne⟩
          · exact .inl hj
          · exact absurd hj hne
          · exact .inr hj
      unfold wpOpIn
      simp only [hoi]
      have key := op_at (ro := ro) (K := wpAnyIn (FW ro) 0 P .any ops Q fuel (listed.setIfInBounds i true)) (Q := Q) hc F hoi (rest' := pre ++ post) hin hmem h g1 fun E' a' h' => by
        refine run_any hc F hord hQ fuel _ (pre ++ post) (by simp [hs]) (by simp at hl ⊢; omega) ?_ (fun j => ?_) (fun k o ho hk' e he hb => ?_) h' g2
        · rw [List.pairwise_append] at hp ⊢
          exact ⟨hp.1, (List.pairwise_cons.1 hp.2.1).2, fun x hx y hy => hp.2.2 x hx y (by simp [hy])⟩
        · rw [hmem, hm]
          by_cases hji : i = j
          · subst hji; simp [hsz]
          · rw [getD_set_ne true hji]; simp [Ne.symm hji]
        · by_cases hki : i = k
          · subst hki
            rw [hoi] at ho
            injection ho with ho
            subst ho
            exact getD_set_true (hall e he hb)
          · rw [getD_set_ne false hki] at hk'
            exact getD_set_true (hcl k o ho hk' e he hb)
      exact key
end

end Go.PM
