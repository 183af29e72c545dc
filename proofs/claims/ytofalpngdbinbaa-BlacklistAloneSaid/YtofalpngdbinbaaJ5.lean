/- Parts put together: PQe, PQf. -/
import Derived.Test.YtofalpngdbinbaaJ4
import Derived.Shelf.SlIter.Sorted
import Derived.Sort.KeysCollected
import Derived.StringKeys
import Derived.Shelf.GgClosure.StringsIndexFuncTop
set_option linter.unusedSimpArgs false
set_option linter.unusedVariables false
/- slices.Sorted(maps.Keys(m)) at strings, as functions of pure values. -/
namespace Go.PM
open Go Go.Sort Go.Maps Go.RowKit Go.Proofs

/-- The keys of a map's entries. -/
def unKeys : List (List C × List C) → Option (List ByteArray)
  | [] => some []
  | ([.v (.string s)], _) :: r => (unKeys r).map (s :: ·)
  | _ :: _ => none
theorem unKeys_spec : ∀ {es : List (List C × List C)} {ks : List ByteArray}, unKeys es = some ks → ks.length = es.length ∧ ∀ (j : Nat) (q : List C × List C), es[j]? = some q → ∃ s, ks[j]? = some s ∧ q.1 = [.v (.string s)]
  | [], ks, h => by cases h; exact ⟨rfl, by simp⟩
  | e :: r, ks, h => by
    unfold unKeys at h
    split at h
    · rename_i he; cases he
    · rename_i s v r' he
      injection he with e1 e2
      subst e1 e2
      obtain ⟨l', h1, h2⟩ := Option.map_eq_some_iff.1 h
      obtain ⟨h3, h4⟩ := unKeys_spec h1
      subst h2
      refine ⟨by simp [h3], fun j q hj => ?_⟩
      cases j with
      | zero => simp at hj; subst hj; exact ⟨s, rfl, rfl⟩
      | succ j => exact h4 j q (by simpa using hj)
    · cases h

def byt (s : ByteArray) : List UInt8 := s.data.toList
def sortB (ks : List ByteArray) : List ByteArray := ((ks.map byt).mergeSort leB).map fun l => ⟨l.toArray⟩
theorem encStr_byt (s : ByteArray) : encStr (byt s) = .string s := by simp [encStr, byt]
theorem byt_mk (l : List UInt8) : byt ⟨l.toArray⟩ = l := rfl
def strs (l : List ByteArray) : List C := l.map fun s => .v (.string s)
theorem sortB_length (ks : List ByteArray) : (sortB ks).length = ks.length := by simp [sortB]
def okKeys (ks : List ByteArray) : Prop := ks.Nodup ∧ (∀ s ∈ ks, s.size ≤ maxLen) ∧ ks.length ≤ maxLen ∧ ks.length * 16 ≤ 140737488355328
instance (ks : List ByteArray) : Decidable (okKeys ks) := inferInstanceAs (Decidable (_ ∧ _))

def keysP (K1 : Nat) (args : List V) (objs : List Obj) : Option Out :=
  match args, objs with
  | [.c (.mp kt et ka va es)], [] => some ⟨.c (.fn K1 [.bx (.mp kt et ka va es)]), [], none⟩
  | _, _ => none
def sortedP (K1 : Nat) (args : List V) (objs : List Obj) : Option Out :=
  match args, objs with
  | [.c (.fn g [.bx (.mp kt et none va es)])], [] => (unKeys es).bind fun ks => need (Nat.beq g K1 && decide (okKeys ks)) (some ⟨.c (.sl ks.length (strs (sortB ks))), [], none⟩)
  | _, _ => none

variable {P : Program} {G : Nat → Option (List C)} {f K1 : Nat} {T : TypeId} {args : List V} {objs : List Obj} {out : Out}
theorem keysP_ok (hC : ∀ (mb : Option Nat) (W : World), Calls P f #[.map mb] W fun e w' => e = .returned (.func (.func K1) #[] #[.pointer (some ⟨W.heap.size, 0, none⟩)]) ∧ w' = W.alloc (.cells #[.map mb] T))
    (h : keysP K1 args objs = some out) : ConAt P G f args objs out := by
  unfold keysP at h
  split at h
  · rename_i kt et ka va es
    injection h with h
    subst h
    intro pt E us j hl hD hG hgood hargs
    obtain ⟨u, rfl⟩ : ∃ u, us = [u] := by
      match us, hl with
      | [u], _ => exact ⟨u, rfl⟩
    have hu := hargs 0 _ u rfl rfl
    cases hu with | c hc =>
    have hc0 := hc
    cases hc with
    | @mp _ _ _ _ _ g ms kus vus hg hp hs hk h1 h2 =>
      refine (hC (some g) E.w).mono fun e w' => ?_
      rintro ⟨he, hw⟩
      have hfx := held_fix hgood #[.map (some g)] T
      refine ⟨_, E.fix #[.map (some g)] T, he, by rw [hw]; rfl, hgood.fix #[.map (some g)] T, .c (.fn rfl fun j c u hj hu => ?_), fun k hk => by simp at hk⟩
      cases j with
      | zero =>
        simp at hj hu
        subst hj hu
        refine .bx ⟨?_, .inr rfl⟩ (hc0.held hfx)
        show World.cell? (E.w.alloc (.cells #[.map (some g)] T)) ⟨E.w.heap.size, 0, none⟩ = some (.map (some g))
        unfold World.cell?
        rw [heap_alloc_new]
        rfl
      | succ j => simp at hj
  · cases h

/-- A new block is sealed. -/
theorem good_seal {A : Fr} {E : Env} {l : Loc} {pend : Nat → Prop} (hG : Good P A E l pend) {g : Nat} (hg : g < E.w.heap.size) (hn : A.w0.heap.size ≤ g) (hr : ∀ s, E.rho s ≠ some g) (hy : ¬ E.Y g) :
    Good P A { E with Pr := fun b k => E.Pr b k ∨ b = g } l pend := by
  have hx : Held E.w E.Pr E.w (fun b k => E.Pr b k ∨ b = g) := fun b k hp => ⟨.inl hp, rfl, rfl⟩
  have hk : ∀ s, Keeps1 E { E with Pr := fun b k => E.Pr b k ∨ b = g } l l s := fun s => by
    by_cases hd : l s = .dead
    · exact .inl hd
    · exact .inr ⟨hd, rfl, rfl, .same rfl⟩
  refine ⟨fun s hp => (hG.obj s hp).keep hx rfl rfl (fun _ _ => rfl) fun _ _ _ _ _ _ hu => hu.mono0 hx hk, hG.pnd, hG.inj, hG.base, fun b k hp => ?_, hG.jstep (E' := { E with Pr := fun b k => E.Pr b k ∨ b = g }) rfl rfl hx (fun b k hp => ?_) (fun _ _ => rfl) (Nat.le_refl _) rfl rfl rfl, hG.pr0.trans hx, fun b k hp => ?_, hG.size, hG.os, hG.tape, hG.output, hG.yok, hG.yown, hG.ylt, hG.dm⟩
  · rcases hp with hp | rfl
    · exact hG.prot b k hp
    · exact ⟨hg, fun s hs => absurd hs (hr s)⟩
  · rcases hp with hp | rfl
    · exact .inl hp
    · exact .inr hy
  · rcases hp with hp | rfl
    · exact hG.prN b k hp
    · exact .inr (.inl hn)

def R0 : Value → Option (DataW Unit × List MemPlace) := fun _ => some (.nil, [])

theorem sortedP_ok (hT : P.underlying T = some .string)
    (hC : ∀ (Bm b nn : Nat) (D0 : DataW Unit) (w : World), Bm < w.heap.size → w.cell? ⟨Bm, 0, none⟩ = some (.map (some b)) → w.ownsMap P T R0 b nn D0 → Maps.size D0 ≤ maxLen → Maps.size D0 * 16 ≤ 140737488355328 →
      Calls P f #[.func (.func K1) #[] #[.pointer (some ⟨Bm, 0, none⟩)]] w fun e w' => ∃ (v : Value) (ss : List (List UInt8)), e = .returned v ∧ ss.Perm (strKeys D0) ∧
        w'.ownsRow w.heap.size T 1 v ss.length ((ss.mergeSort (fun x y => decide (x ≤ y))).map encStr) ∧ (v = .slice none 0 0 ↔ ss = []) ∧ Below w.heap.size w w')
    (h : sortedP K1 args objs = some out) : ConAt P G f args objs out := by
  unfold sortedP at h
  split at h
  · rename_i g0 kt et va es
    obtain ⟨ks, hks, h⟩ := Option.bind_eq_some_iff.1 h
    obtain ⟨hb, h⟩ := need_some h
    injection h with h
    subst h
    rw [Bool.and_eq_true] at hb
    have e0 := Nat.eq_of_beq_eq_true hb.1
    subst e0
    obtain ⟨o1, o2, o3, o4⟩ : okKeys ks := of_decide_eq_true hb.2
    obtain ⟨k1, k2⟩ := unKeys_spec hks
    intro pt E us j hl hD hG hgood hargs
    obtain ⟨u, rfl⟩ : ∃ u, us = [u] := by
      match us, hl with
      | [u], _ => exact ⟨u, rfl⟩
    have hu := hargs 0 _ u rfl rfl
    cases hu with | c hc =>
    cases hc with
    | @fn _ _ us2 hs2 hcap =>
      obtain ⟨p, rfl⟩ : ∃ p, us2 = [p] := by
        match us2, hs2 with
        | [p], _ => exact ⟨p, rfl⟩
      have hp1 := hcap 0 _ p rfl rfl
      cases hp1 with
      | @bx _ mv Bm hcell hmp =>
        cases hmp with
        | @mp _ _ _ _ _ g ms kus vus hg hpr hs hk h1 h2 =>
          have hBm : Bm < E.w.heap.size := (hgood.prot Bm 0 hcell.2).1
          have hmap : E.w.heap[g]? = some (.map ms es.length) := by
            unfold mapAt at hg
            split at hg
            · rename_i ms' n' e
              injection hg with hg; injection hg with e1 e2
              subst e1 e2; exact e
            · cases hg
          have hkey : ∀ (i : Nat) (m : MapEntry), ms[i]? = some m → ∃ s, ks[i]? = some s ∧ m.key = .string s ∧ m.born = i := by
            intro i m hm
            have hi : i < es.length := by rw [← hs]; exact (Array.getElem?_eq_some_iff.1 hm).1
            have hq : es[i]? = some es[i] := by simp [hi]
            obtain ⟨hb1, hb2, _, hb4, _⟩ := hk i es[i] m hq hm
            obtain ⟨s, hs1, hs2⟩ := k2 i es[i] hq
            have e1 : kus i = [m.key] := hb2
            have hc := h1 i es[i] 0 (.v (.string s)) m.key hq (by rw [hs2]; rfl) (by rw [e1]; rfl)
            have hkv : m.key = .string s := by
              generalize m.key = mk at hc
              cases hc with
              | v _ => rfl
            exact ⟨s, hs1, hkv, hb1⟩
          have hksz : ∀ s ∈ ks, s.size ≤ maxLen := o2
          have hkeys : ms.toList.map (·.key) = ks.map Value.string := by
            apply List.ext_getElem?
            intro i
            rw [List.getElem?_map, List.getElem?_map]
            cases hm : ms.toList[i]? with
            | none =>
              have : ks[i]? = none := by
                rw [List.getElem?_eq_none_iff] at hm ⊢
                simp at hm; omega
              rw [this]; rfl
            | some m =>
              obtain ⟨s, q1, q2, _⟩ := hkey i m (by simpa using hm)
              rw [q1]; simp [q2]
          have hborn : ms.toList.map (·.born) = List.range ms.size := by
            apply List.ext_getElem?
            intro i
            rw [List.getElem?_map]
            cases hm : ms.toList[i]? with
            | none =>
              rw [List.getElem?_eq_none_iff] at hm
              have : (List.range ms.size)[i]? = none := by rw [List.getElem?_eq_none_iff]; simpa using hm
              rw [this]; rfl
            | some m =>
              obtain ⟨s, _, _, q3⟩ := hkey i m (by simpa using hm)
              have hi : i < ms.size := by have := (List.getElem?_eq_some_iff.1 hm).1; simpa using this
              simp [q3, hi]
          have hko : ∀ s ∈ ks, keyOf P T (.string s) = some (.string (byt s)) := fun s hs => WideMaps.keyOf_string_mk hT (hksz s hs)
          have hrd : ∀ x ∈ ms.toList, ∃ s ∈ ks, x.key = .string s ∧ Go.WideElems.rd P T R0 x = some (.string (byt s), .nil) := by
            intro x hx
            obtain ⟨i, hi, rfl⟩ := List.mem_iff_getElem.1 hx
            obtain ⟨s, q1, q2, _⟩ := hkey i ms.toList[i] (by simp at hi; simp [hi])
            have hms := List.mem_of_getElem? q1
            exact ⟨s, hms, q2, by unfold Go.WideElems.rd; rw [q2, hko s hms]; rfl⟩
          let D0 : DataW Unit := .map ((ms.toList.map (Go.WideElems.rg P T R0)).foldr DataW.insert [])
          have hown : E.w.ownsMap P T R0 g es.length D0 := by
            refine ⟨ms, es.length, hmap, ⟨by rw [hs]; omega, ⟨fun x hx => ?_, ?_, ?_⟩, fun x hx => ?_⟩, Nat.le_of_eq hs, rfl⟩
            · obtain ⟨i, hi, rfl⟩ := List.mem_iff_getElem.1 hx
              obtain ⟨s, _, _, q3⟩ := hkey i ms.toList[i] (by simp at hi; simp [hi])
              rw [q3, ← hs]; simpa using hi
            · rw [hborn]; exact List.nodup_range
            · rw [hkeys]
              exact List.Pairwise.map _ (fun a b hab e => hab (by injection e)) o1
            · obtain ⟨s, _, _, q⟩ := hrd x hx
              exact ⟨_, q⟩
          have hstr : (strKeys D0).Perm (ks.map byt) := by
            show (((ms.toList.map (Go.WideElems.rg P T R0)).foldr DataW.insert []).map fun p => strOf p.1).Perm _
            refine ((Go.WideShapes.sorted_perm _).map _).trans ?_
            rw [List.map_map]
            have : ms.toList.map ((fun p => strOf p.1) ∘ Go.WideElems.rg P T R0) = ks.map byt := by
              apply List.ext_getElem?
              intro i
              rw [List.getElem?_map, List.getElem?_map]
              cases hm : ms.toList[i]? with
              | none =>
                have : ks[i]? = none := by
                  rw [List.getElem?_eq_none_iff] at hm ⊢
                  simp at hm; omega
                rw [this]; rfl
              | some m =>
                obtain ⟨s, q1, q2, _⟩ := hkey i m (by simpa using hm)
                have hms := List.mem_of_getElem? q1
                rw [q1]
                simp [Go.WideElems.rg, Go.WideElems.rd, q2, hko s hms, R0, strOf]
            rw [this]
          have hsize : Maps.size D0 = ks.length := by
            show ((ms.toList.map (Go.WideElems.rg P T R0)).foldr DataW.insert []).length = _
            rw [length_sorted]; simp; omega
          refine (hC Bm g es.length D0 E.w hBm hcell.1 hown (by omega) (by omega)).mono fun e w' => ?_
          rintro ⟨v, ss, he, hperm, hrow, hnil, hbel⟩
          have hperm2 := hperm.trans hstr
          have hlen : ss.length = ks.length := by have := hperm2.length_eq; simpa using this
          have hms : ss.mergeSort (fun x y => decide (x ≤ y)) = (ks.map byt).mergeSort leB := mergeSort_of_perm hperm2
          rw [hms] at hrow
          have hold : ∀ b, b < E.w.heap.size → w'.heap[b]? = E.w.heap[b]? := hbel.block
          have hx : Held E.w E.Pr w' E.Pr := fun b k hp => ⟨hp, World.cell?_of_block (w := E.w) (hold b (hgood.prot b k hp).1), mapAt_block (hold b (hgood.prot b k hp).1)⟩
          obtain ⟨q1, _⟩ := good_grow hgood hx hold hbel.size hbel.os hbel.tape hbel.output
          rcases hrow.2 with ⟨rfl, hz⟩ | ⟨gb, cap, cur, rfl, hbase, hgb, r1, r2, r3, r4⟩
          · have hk0 : ks = [] := List.eq_nil_of_length_eq_zero (by omega)
            subst hk0
            have h0 : strs (sortB []) = [] := by simp [strs, sortB]
            exact ⟨_, { E with w := w' }, he, rfl, q1, .c (by rw [h0]; exact .sl0 (Nat.zero_le _)), fun k hk => by simp at hk⟩
          · have hgl : gb < w'.heap.size := (Array.getElem?_eq_some_iff.1 hgb).1
            have q2 := good_seal (g := gb) q1 hgl (by
              show E.w.heap.size ≤ gb; exact hbase) (fun s hs => by have := hgood.lt (show E.rho s = some gb from hs); omega) (fun hy => by have := hgood.ylt gb hy; omega)
            have hcells : ∀ (i : Nat) (s : ByteArray), (sortB ks)[i]? = some s → w'.cell? ⟨gb, i, none⟩ = some (.string s) := by
              intro i s hi
              have hi2 : (((ks.map byt).mergeSort leB).map encStr)[i]? = some (.string s) := by
                unfold sortB at hi
                rw [List.getElem?_map] at hi ⊢
                obtain ⟨x, hx1, hx2⟩ := Option.map_eq_some_iff.1 hi
                rw [hx1, ← hx2]; simp [encStr]
              rw [← r4, List.getElem?_take] at hi2
              split at hi2
              · unfold World.cell?
                rw [hgb]
                simpa using hi2
              · cases hi2
            refine ⟨_, { E with w := w', Pr := fun b k => E.Pr b k ∨ b = gb }, he, rfl, q2, .c ?_, fun k hk => by simp at hk⟩
            rw [hlen]
            refine .sl (us := fun i => .string ((sortB ks).getD i default)) (by omega) r2 (fun i c hi => ?_) fun i c hi => ?_
            · unfold strs at hi
              rw [List.getElem?_map] at hi
              obtain ⟨s, hs1, hs2⟩ := Option.map_eq_some_iff.1 hi
              refine ⟨?_, .inr rfl⟩
              rw [Nat.zero_add, hcells i s hs1, List.getD_eq_getElem?_getD, hs1]; rfl
            · unfold strs at hi
              rw [List.getElem?_map] at hi
              obtain ⟨s, hs1, hs2⟩ := Option.map_eq_some_iff.1 hi
              subst hs2
              simp only [List.getD_eq_getElem?_getD, hs1, Option.getD_some]
              exact .v rfl
  · cases h

end Go.PM
/- strings.ContainsFunc with a function that captures nothing, as a function of pure values. -/
namespace Go.PM
open Go Go.Sort Go.RowKit

/-- Runes that are no capital letters or digits. -/
def oddRune (r : Nat) : Bool := (decide (r < 65) || decide (90 < r)) && (decide (r < 48) || decide (57 < r))
def hasRune (p : Nat → Bool) (s : ByteArray) : Bool := decide (0 ≤ Lib.idxFunc p true s)
def containsP (g0 : Nat) (p : Nat → Bool) (args : List V) (objs : List Obj) : Option Out :=
  match args, objs with
  | [.c (.v (.string s)), .c (.fn g [])], [] => need (Nat.beq g g0) (some ⟨.c (.v (.bool (hasRune p s))), [], none⟩)
  | _, _ => none

variable {P : Program} {G : Nat → Option (List C)} {f g0 : Nat} {args : List V} {objs : List Obj} {out : Out} {p : Nat → Bool}
theorem containsP_ok (hC : ∀ (s : ByteArray) (W : World), Calls P f #[.string s, .func (.func g0) #[] #[]] W fun e w' => e = .returned (.bool (hasRune p s)) ∧ Below W.heap.size W w')
    (h : containsP g0 p args objs = some out) : ConAt P G f args objs out := by
  unfold containsP at h
  split at h
  · rename_i s g
    obtain ⟨hb, h5⟩ := need_some h
    have e := Nat.eq_of_beq_eq_true hb
    subst e
    cases h5
    intro pt E us j hl hD hG hgood hargs
    obtain ⟨u, v, rfl⟩ : ∃ u v, us = [u, v] := by
      match us, hl with
      | [u, v], _ => exact ⟨u, v, rfl⟩
    have hu := hargs 0 _ u rfl rfl
    have hv := hargs 1 _ v rfl rfl
    cases hu with | c hc =>
    cases hc with | v _ =>
    cases hv with | c hc =>
    cases hc with
    | @fn _ _ us2 hs2 _ =>
      obtain rfl : us2 = [] := List.eq_nil_of_length_eq_zero hs2
      refine (hC s E.w).mono fun e w' => ?_
      rintro ⟨he, hbel⟩
      have hold : ∀ b, b < E.w.heap.size → w'.heap[b]? = E.w.heap[b]? := hbel.block
      have hx : Held E.w E.Pr w' E.Pr := fun b k hp => ⟨hp, World.cell?_of_block (w := E.w) (hold b (hgood.prot b k hp).1), mapAt_block (hold b (hgood.prot b k hp).1)⟩
      obtain ⟨q1, _⟩ := good_grow hgood hx hold hbel.size hbel.os hbel.tape hbel.output
      exact ⟨_, { E with w := w' }, he, rfl, q1, .c (.v rfl), fun k hk => by simp at hk⟩
  · cases h
end Go.PM
