/- From an equation of the pure machine to a run of the program: what was there stays as it is. -/
import Derived.Test.YtepjbmlhfhahcaaPPa
import Derived.Below
set_option linter.unusedVariables false
set_option linter.unusedSimpArgs false
namespace Go.PM
open Go Go.RowKit

/-- Where a run begins: nothing is one's own. -/
def E0 (W : World) : Env := { w := W, rho := fun _ => none, bs := fun _ => 0, Pr := fun b _ => b < W.heap.size, Y := fun b => b < W.heap.size, D := [] }

theorem lift {P : Program} {prim : Prims} {laid : FuncId → Laid} {fu d : Nat} {f : FuncId} {args : List V} {out : Out} (hp : PrimOk P prim) (hi : IterOk P prim laid fu) (hm : P.follows .mixedOrders = true)
    (h : callN P prim laid fu d f args [] = some out) (hl : log0 args = none) (W : World) (us : List Value) (hlen : us.length = args.length)
    (hrel : ∀ (i : Nat) (x : V) (u : Value), args[i]? = some x → us[i]? = some u → RV P (E0 W) (locOf [] none) x u) :
    Calls P f us.toArray W fun e w' => ∃ u E', e = .returned u ∧ Below W.heap.size W w' ∧ E'.w = w' ∧ RV P E' (locOf out.objs out.log) out.r u := by
  have hc := (callN_sound hp hi hm d f args [] out h).1
  have hdead : ∀ s, (locOf [] none) s = .dead := fun s => by simp [locOf]
  have hg : Good P (startFr (fun _ => 0) (E0 W) (frJ W fun b => b < W.heap.size)) (E0 W) (locOf [] none) (fun _ => False) :=
    { obj := fun s _ => by rw [hdead]; exact .dead rfl
      pnd := fun s h => h.elim
      inj := fun s s' g h => by cases h
      base := fun s g h => by cases h
      prot := fun b k h => ⟨h, fun s h => by cases h⟩
      jf := ⟨rfl, fun b hb => ⟨hb, rfl⟩⟩
      pr0 := Held.refl _ _
      prN := fun b k h => .inl h
      size := Nat.le_refl _
      os := rfl
      tape := rfl
      output := rfl
      yok := frJ_yok W _
      yown := fun s g h => by cases h
      ylt := fun b h => h
      dm := fun r h => by cases h }
  have hrun := hc (fun _ => 0) (E0 W) us (frJ W fun b => b < W.heap.size) hlen rfl (by rw [hl]; exact hg) (by rw [hl]; exact hrel)
  refine hrun.mono fun e w' ⟨u, E', he, hw, hG, hr, _⟩ => ⟨u, E', he, ?_, hw, hr⟩
  subst hw
  exact ⟨hG.os, hG.tape, hG.output, hG.size, fun k hk => (hG.jf.2 k hk).2⟩

/-- A result of one scalar. -/
theorem RV.scalar {P : Program} {E : Env} {l : Loc} {x : Value} {u : Value} (h : RV P E l (.c (.v x)) u) : u = x := by
  cases h with
  | c h => cases h; rfl
end Go.PM
